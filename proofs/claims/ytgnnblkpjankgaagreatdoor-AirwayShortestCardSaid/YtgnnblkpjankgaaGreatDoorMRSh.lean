/-
  Several texts as one.
  Plain words for the reference's shortest way: the hops between reachable fixes in a list, and the way back over that list.
  The labels and the hops of the reference's shortest way in memory.
  Contract: the shortest way of the reference: its Shortest.
-/
import Derived.Test.YtgnnblkpjankgaaGreatDoorMWay
import Derived.Test.YtgnnblkpjankgaaGreatDoorPlaceL
import Derived.Test.YtgnnblkpjankgaaGreatDoorMSho
import Derived.Test.YtgnnblkpjankgaaGreatDoorRReach
import Derived.Test.YtgnnblkpjankgaaGreatDoorMAtl
import Derived.Deep.RegionHeld3
import Derived.Laws.AppendOwnNone
namespace Go.Proofs.YtgnnblkpjankgaaGreatDoor
set_option linter.unusedVariables false
set_option linter.unusedSimpArgs false

/-- a hop between two of the references, with its length -/
structure Ed where
  u : Nat
  v : Nat
  d : Int
  h : Hp
section
variable {hp : Rf → List Hp} {wt : Rf → Rf → Int} {s : Rf} {f : Rf → Lb} {refs : List Rf}
def edsOf (hp : Rf → List Hp) (wt : Rf → Rf → Int) (refs : List Rf) (i : Nat) (s : Rf) : List Ed := (hp s).map fun h => ⟨i, plc h.dst refs, wt s h.dst, h⟩
def edsN (hp : Rf → List Hp) (wt : Rf → Rf → Int) (refs : List Rf) : Nat → List Ed
  | 0 => []
  | k + 1 => edsN hp wt refs k ++ edsOf hp wt refs k (refs.getD k [])
theorem getD_at {l : List Rf} {k : Nat} (h : k < l.length) : l.getD k [] = l[k] := by rw [List.getD_eq_getElem?_getD, List.getElem?_eq_getElem h]; rfl
/-- references in order, each once, and closed under hops -/
structure Refs (hp : Rf → List Hp) (refs : List Rf) : Prop where
  srt : refs.Pairwise (fun a b => leB a b = true)
  nodup : refs.Nodup
  closed : ∀ u ∈ refs, ∀ h ∈ hp u, h.dst ∈ refs
theorem Refs.at_ (h : Refs hp refs) {x : Rf} (hx : x ∈ refs) : ∃ hk : plc x refs < refs.length, refs[plc x refs] = x := by
  have h1 := (plc_mem x refs h.srt).1 hx
  obtain ⟨hk, he⟩ := List.getElem?_eq_some_iff.1 h1
  exact ⟨hk, he⟩
theorem Refs.inj (h : Refs hp refs) {i j : Nat} (hi : i < refs.length) (hj : j < refs.length) (e : refs[i] = refs[j]) : i = j := by
  rcases Nat.lt_trichotomy i j with hlt | rfl | hlt
  · exact absurd e (List.pairwise_iff_getElem.1 h.nodup i j hi hj hlt)
  · rfl
  · exact absurd e.symm (List.pairwise_iff_getElem.1 h.nodup j i hj hi hlt)
theorem Refs.plc_at (h : Refs hp refs) {i : Nat} (hi : i < refs.length) : plc refs[i] refs = i := by
  obtain ⟨hk, he⟩ := h.at_ (List.getElem_mem hi)
  exact h.inj hk hi he
/-- what is known of a hop of the list -/
structure EdOk (hp : Rf → List Hp) (wt : Rf → Rf → Int) (refs : List Rf) (k : Nat) (e : Ed) : Prop where
  uk : e.u < k
  u : e.u < refs.length
  v : e.v < refs.length
  hv : refs[e.v] = e.h.dst
  hh : e.h ∈ hp refs[e.u]
  d : e.d = wt refs[e.u] refs[e.v]
theorem eds_ok (h : Refs hp refs) : ∀ {k : Nat}, k ≤ refs.length → ∀ e ∈ edsN hp wt refs k, EdOk hp wt refs k e
  | 0, _, e, he => by cases he
  | k + 1, hk, e, he => by
    have e0 : edsN hp wt refs (k + 1) = edsN hp wt refs k ++ edsOf hp wt refs k (refs.getD k []) := rfl
    rw [e0, List.mem_append] at he
    rcases he with he | he
    · have ih := eds_ok h (k := k) (by omega) e he
      exact ⟨by have := ih.uk; omega, ih.u, ih.v, ih.hv, ih.hh, ih.d⟩
    · have hk' : k < refs.length := by omega
      rw [getD_at hk'] at he
      unfold edsOf at he
      rw [List.mem_map] at he
      obtain ⟨x, hx, rfl⟩ := he
      obtain ⟨hv, hvv⟩ := h.at_ (h.closed _ (List.getElem_mem hk') x hx)
      exact ⟨Nat.lt_succ_self k, hk', hv, hvv, hx, by show wt refs[k] x.dst = wt refs[k] refs[plc x.dst refs]; rw [hvv]⟩
theorem edsOf_len (i : Nat) (x : Rf) : (edsOf hp wt refs i x).length = (hp x).length := by unfold edsOf; rw [List.length_map]
theorem eds_len {m : Nat} (hm : ∀ x, (hp x).length ≤ m) : ∀ k, (edsN hp wt refs k).length ≤ k * m
  | 0 => Nat.zero_le _
  | k + 1 => by
    have e0 : edsN hp wt refs (k + 1) = edsN hp wt refs k ++ edsOf hp wt refs k (refs.getD k []) := rfl
    have ih := eds_len hm k
    have h1 := hm (refs.getD k [])
    rw [e0, List.length_append, edsOf_len, Nat.add_mul, Nat.one_mul]
    omega
/-- the hops as pairs -/
def prs (refs : List Rf) (l : List Ed) : List (Rf × Rf) := l.map fun e => (refs.getD e.u [], refs.getD e.v [])
theorem prs_hopping (h : Refs hp refs) {k : Nat} (hk : k ≤ refs.length) : Hopping (ends hp) (fun v => v ∈ refs) (prs refs (edsN hp wt refs k)) := by
  intro x hx
  unfold prs at hx
  rw [List.mem_map] at hx
  obtain ⟨e, he, rfl⟩ := hx
  have ho := eds_ok h hk e he
  show refs.getD e.u [] ∈ refs ∧ refs.getD e.v [] ∈ ends hp (refs.getD e.u [])
  rw [getD_at ho.u, getD_at ho.v]
  exact ⟨List.getElem_mem ho.u, by rw [ho.hv]; exact List.mem_map.2 ⟨e.h, ho.hh, rfl⟩⟩
theorem prs_all (h : Refs hp refs) : ∀ {k : Nat}, k ≤ refs.length → ∀ i, (hi : i < refs.length) → i < k → ∀ v ∈ ends hp refs[i], (refs[i], v) ∈ prs refs (edsN hp wt refs k)
  | 0, _, i, hi, hik, _, _ => absurd hik (by omega)
  | k + 1, hk, i, hi, hik, v, hv => by
    have e0 : edsN hp wt refs (k + 1) = edsN hp wt refs k ++ edsOf hp wt refs k (refs.getD k []) := rfl
    unfold prs
    rw [e0, List.map_append, List.mem_append]
    by_cases e : i = k
    · subst e
      right
      unfold ends at hv
      rw [List.mem_map] at hv
      obtain ⟨x, hx, rfl⟩ := hv
      rw [getD_at hi]
      unfold edsOf
      rw [List.map_map, List.mem_map]
      refine ⟨x, hx, ?_⟩
      obtain ⟨hk, he⟩ := h.at_ (h.closed _ (List.getElem_mem hi) x hx)
      show (refs.getD i [], refs.getD (plc x.dst refs) []) = _
      rw [getD_at hi, getD_at hk, he]
    · left
      exact prs_all h (k := k) (by omega) i hi (by omega) v hv
/-- whether a hop leads to v and its labels fit -/
def goodE (f : Rf → Lb) (refs : List Rf) (k : Nat) (e : Ed) : Bool := decide (e.v = k) && (decide ((f (refs.getD e.u [])).1 + e.d = (f (refs.getD e.v [])).1) && decide ((f (refs.getD e.u [])).2 + 1 = (f (refs.getD e.v [])).2))
theorem bkL_snoc {v x : Rf} : ∀ l : List Rf, bkL hp wt f v (l ++ [x]) = (bkL hp wt f v l).or (if fits wt f x v then ((hp x).find? (fun h => decide (h.dst = v))).map (fun h => (x, h)) else none)
  | [] => by
    show (if fits wt f x v then (match (hp x).find? (fun h => decide (h.dst = v)) with | some h => some (x, h) | none => none) else none) = _
    cases fits wt f x v <;> cases (hp x).find? (fun h => decide (h.dst = v)) <;> rfl
  | a :: l => by
    have e0 : ∀ r, bkL hp wt f v (a :: r) = if fits wt f a v then (match (hp a).find? (fun h => decide (h.dst = v)) with | some h => some (a, h) | none => bkL hp wt f v r) else bkL hp wt f v r := fun _ => rfl
    rw [List.cons_append, e0, e0, bkL_snoc l]
    cases fits wt f a v <;> cases (hp a).find? (fun h => decide (h.dst = v)) <;> rfl
theorem find_eds (h : Refs hp refs) {v : Rf} (hv : v ∈ refs) {k : Nat} (hk : k < refs.length) :
    ∀ l : List Hp, (∀ x ∈ l, x ∈ hp refs[k]) → (l.map fun x => (⟨k, plc x.dst refs, wt refs[k] x.dst, x⟩ : Ed)).find? (goodE f refs (plc v refs)) =
      if fits wt f refs[k] v then (l.find? (fun x => decide (x.dst = v))).map (fun x => (⟨k, plc x.dst refs, wt refs[k] x.dst, x⟩ : Ed)) else none
  | [], _ => by split <;> rfl
  | x :: l, hx => by
    have ih := find_eds h hv hk l (fun y hy => hx y (List.mem_cons_of_mem _ hy))
    obtain ⟨hkx, hex⟩ := h.at_ (h.closed _ (List.getElem_mem hk) x (hx x (List.mem_cons_self ..)))
    obtain ⟨hkv, hev⟩ := h.at_ hv
    have hg : goodE f refs (plc v refs) ⟨k, plc x.dst refs, wt refs[k] x.dst, x⟩ = (decide (x.dst = v) && fits wt f refs[k] v) := by
      unfold goodE fits
      simp only
      rw [getD_at hk, getD_at hkx, hex]
      by_cases e : x.dst = v
      · subst e
        rw [decide_eq_true rfl, decide_eq_true rfl, Bool.true_and, Bool.true_and, Bool.and_comm]
      · have : ¬ plc x.dst refs = plc v refs := by
          intro e2
          have h3 : refs[plc x.dst refs] = refs[plc v refs] := by simp only [e2]
          rw [hex, hev] at h3
          exact e h3
        rw [decide_eq_false this, decide_eq_false e, Bool.false_and, Bool.false_and]
    rw [List.map_cons, List.find?_cons, hg, List.find?_cons, ih]
    by_cases hf : fits wt f refs[k] v = true
    · rw [hf, Bool.and_true]
      by_cases e : x.dst = v
      · rw [decide_eq_true e]; simp
      · rw [decide_eq_false e]
    · rw [Bool.not_eq_true] at hf
      rw [hf, Bool.and_false]
      simp
theorem bk_eds (h : Refs hp refs) {v : Rf} (hv : v ∈ refs) : ∀ {k : Nat}, k ≤ refs.length → bkL hp wt f v (refs.take k) = ((edsN hp wt refs k).find? (goodE f refs (plc v refs))).map (fun e => (refs.getD e.u [], e.h))
  | 0, _ => by rw [List.take_zero]; rfl
  | k + 1, hk => by
    have hk' : k < refs.length := by omega
    have e0 : edsN hp wt refs (k + 1) = edsN hp wt refs k ++ edsOf hp wt refs k (refs.getD k []) := rfl
    rw [List.take_add_one, List.getElem?_eq_getElem hk', Option.toList_some, bkL_snoc, bk_eds h hv (k := k) (by omega), e0, List.find?_append, getD_at hk']
    unfold edsOf
    rw [find_eds h hv hk' _ (fun x hx => hx)]
    cases (edsN hp wt refs k).find? (goodE f refs (plc v refs)) with
    | some e => rfl
    | none =>
      simp only [Option.map_none, Option.none_or]
      by_cases hf : fits wt f refs[k] v = true
      · rw [if_pos hf, if_pos hf]
        cases (hp refs[k]).find? (fun x => decide (x.dst = v)) with
        | none => rfl
        | some x =>
          show some (refs[k], x) = some (refs.getD k [], x)
          rw [getD_at hk']
      · rw [if_neg hf, if_neg hf, Option.map_none]
theorem find_first {P : Ed → Bool} : ∀ {l : List Ed} {j : Nat} (hj : j < l.length), (∀ e ∈ l.take j, P e = false) → P l[j] = true → l.find? P = some l[j]
  | [], _, hj, _, _ => absurd hj (by simp)
  | a :: l, 0, _, _, h => by rw [List.find?_cons]; simp only [List.getElem_cons_zero] at h ⊢; rw [h]
  | a :: l, j + 1, hj, hno, h => by
    have h0 := hno a (by rw [List.take_succ_cons]; exact List.mem_cons_self ..)
    rw [List.find?_cons, h0]
    simp only [List.getElem_cons_succ] at h ⊢
    exact find_first (by simpa using hj) (fun e he => hno e (by rw [List.take_succ_cons]; exact List.mem_cons_of_mem _ he)) h
/-- one step of the way back -/
theorem way_step (h : Refs hp refs) (hf : Opt (ends hp) wt s (fun v => v ∈ refs) f) {v : Rf} (hv : v ∈ refs) {j : Nat} (hj : j < (edsN hp wt refs refs.length).length)
    (hno : ∀ e ∈ (edsN hp wt refs refs.length).take j, goodE f refs (plc v refs) e = false) (hg : goodE f refs (plc v refs) (edsN hp wt refs refs.length)[j] = true) {e : Ed} (he : (edsN hp wt refs refs.length)[j] = e) :
    wayTo hp wt f refs v = wayTo hp wt f refs (refs.getD e.u []) ++ [e.h] ∧ (f v).2 = (f (refs.getD e.u [])).2 + 1 ∧ refs.getD e.u [] ∈ refs := by
  have h1 := find_first hj hno hg
  rw [he] at h1
  have h2 := bk_eds (wt := wt) (f := f) h hv (Nat.le_refl refs.length)
  rw [List.take_length, h1] at h2
  have h3 : bkL hp wt f v refs = some (refs.getD e.u [], e.h) := h2
  obtain ⟨k1, k2, k3, k4⟩ := bk_some h3
  unfold fits at k2
  rw [Bool.and_eq_true, decide_eq_true_iff, decide_eq_true_iff] at k2
  have hp0 := (hf.pos _ k1).2
  refine ⟨?_, k2.1.symm, k1⟩
  obtain ⟨n, hn⟩ : ∃ n, (f v).2.toNat = n + 1 := ⟨(f v).2.toNat - 1, by omega⟩
  have hn2 : (f (refs.getD e.u [])).2.toNat = n := by omega
  unfold wayTo
  rw [hn, hn2]
  show (match bkL hp wt f v refs with | some (u, h) => wayN hp wt f refs n u ++ [h] | none => []) = _
  rw [h3]
/-- it does not end before the beginning -/
theorem way_more (h : Refs hp refs) (hf : Opt (ends hp) wt s (fun v => v ∈ refs) f) {v : Rf} (hv : v ∈ refs) (hne : v ≠ s) : ¬ ∀ e ∈ edsN hp wt refs refs.length, goodE f refs (plc v refs) e = false := by
  intro hno
  have h0 : 0 < (f v).2 := by
    rcases hf.pred v hv with h1 | ⟨u, hu, huv, e⟩
    · exact absurd h1 hne
    · have h2 : (f v).2 = (f u).2 + 1 := by rw [e]; rfl
      have h3 := (hf.pos u hu).2
      omega
  obtain ⟨u, x, hx, _⟩ := bk_opt (refs := refs) (fun v => Iff.rfl) hf hv h0
  have h2 := bk_eds (wt := wt) (f := f) h hv (Nat.le_refl refs.length)
  rw [List.take_length, hx, List.find?_eq_none.2 (fun e he => by rw [hno e he]; simp)] at h2
  cases h2
theorem way_base (hf : Opt (ends hp) wt s (fun v => v ∈ refs) f) : wayTo hp wt f refs s = [] := by
  unfold wayTo
  rw [hf.base]; rfl
end
theorem reach_refs (L : List Aw) (a : Rf) : Refs (hopsL L) (reachL L a) := ⟨srt_sorted _, reach_nodup L a, reach_closed L a⟩
end Go.Proofs.YtgnnblkpjankgaaGreatDoor
namespace Go.Proofs.YtgnnblkpjankgaaGreatDoor
open Go.RowKit Go.Lib
set_option linter.unusedVariables false
set_option linter.unusedSimpArgs false
/-- the labels' row: one block, three cells a label -/
structure LbQ (g n : Nat) (q : Nat → Rf × Lb) (w : World) : Prop where
  c0 : ∀ k, k < n → w.cell? ⟨g, k * 3, none⟩ = some (.string (sb (q k).1))
  c1 : ∀ k, k < n → w.cell? ⟨g, k * 3 + 1, none⟩ = some (.int .i64 (q k).2.1)
  c2 : ∀ k, k < n → w.cell? ⟨g, k * 3 + 2, none⟩ = some (.int .i64 (q k).2.2)
  fz : ∀ j, w.frozen? ⟨g, j, none⟩ = false
  lt : g < w.heap.size
theorem LbQ.made (n : Nat) (t : TypeId) (w : World) : LbQ w.heap.size n (fun _ => ([], (0, 0))) (w.alloc (.cells (madeCells #[.string ⟨#[]⟩, .int .i64 0, .int .i64 0] (n * 3)) t)) := by
  have hc : ∀ j, (w.alloc (.cells (madeCells #[.string ⟨#[]⟩, .int .i64 0, .int .i64 0] (n * 3)) t)).cell? ⟨w.heap.size, j, none⟩ = (madeCells #[.string ⟨#[]⟩, .int .i64 0, .int .i64 0] (n * 3))[j]? := fun j => by simp [go_sem]
  refine ⟨fun k hk => ?_, fun k hk => ?_, fun k hk => ?_, fun j => by simp [go_sem], by rw [World.size_alloc]; omega⟩
  · have h1 : k * 3 < n * 3 := by omega
    have h2 : k * 3 % 3 = 0 := by omega
    rw [hc]
    simp [madeCells, h1, h2]
    rfl
  · have h1 : k * 3 + 1 < n * 3 := by omega
    have h2 : (k * 3 + 1) % 3 = 1 := by omega
    rw [hc]
    simp [madeCells, h1, h2]
  · have h1 : k * 3 + 2 < n * 3 := by omega
    have h2 : (k * 3 + 2) % 3 = 2 := by omega
    rw [hc]
    simp [madeCells, h1, h2]
theorem LbQ.grw {g n : Nat} {q : Nat → Rf × Lb} {w w' : World} (h : LbQ g n q w) {row : Option Nat} (hg : w.grownBy w' row) (hr : some g ≠ row) : LbQ g n q w' :=
  ⟨fun k hk => (hg.cell_far ⟨g, k * 3, none⟩ h.lt hr).trans (h.c0 k hk), fun k hk => (hg.cell_far ⟨g, k * 3 + 1, none⟩ h.lt hr).trans (h.c1 k hk), fun k hk => (hg.cell_far ⟨g, k * 3 + 2, none⟩ h.lt hr).trans (h.c2 k hk), fun j => (hg.frozen_far ⟨g, j, none⟩ h.lt hr).trans (h.fz j), Nat.lt_of_lt_of_le h.lt hg.size⟩
theorem LbQ.below {g n : Nat} {q : Nat → Rf × Lb} {w w' : World} (h : LbQ g n q w) (hb : Below w.heap.size w w') : LbQ g n q w' := h.grw (grw_below hb none) (by simp)
theorem LbQ.setOther {g n : Nat} {q : Nat → Rf × Lb} {w : World} (h : LbQ g n q w) {a : Addr} (ha : a.block ≠ g) (v : Value) : LbQ g n q (w.setCell a v) := by
  have hg : w.grownBy (w.setCell a v) (some a.block) := ⟨rfl, rfl, rfl, by rw [World.size_setCell]; exact Nat.le_refl _, fun i _ hn => heap_setCell_other w a i v (fun e => hn (by rw [e]))⟩
  exact h.grw hg (fun e => by injection e with e; exact ha e.symm)
theorem LbQ.congr {g n : Nat} {q q' : Nat → Rf × Lb} {w : World} (h : LbQ g n q w) (e : ∀ k, k < n → q' k = q k) : LbQ g n q' w :=
  ⟨fun k hk => by rw [e k hk]; exact h.c0 k hk, fun k hk => by rw [e k hk]; exact h.c1 k hk, fun k hk => by rw [e k hk]; exact h.c2 k hk, h.fz, h.lt⟩
theorem cell_set {w : World} {g i j : Nat} {v : Value} {o : Option Value} (h : w.cell? ⟨g, j, none⟩ = o) (ho : i = j → ∃ u, o = some u) : (w.setCell ⟨g, i, none⟩ v).cell? ⟨g, j, none⟩ = if i = j then some v else o := by
  by_cases e : i = j
  · subst e
    obtain ⟨u, rfl⟩ := ho rfl
    rw [if_pos rfl]
    exact World.cell?_setCell_same _ _ _ h
  · rw [if_neg e, World.cell?_setCell_other _ _ _ _ (fun x => by injection x with _ x _; exact e x)]
    exact h
/-- a label is stored -/
theorem LbQ.put3 {g n : Nat} {q : Nat → Rf × Lb} {w : World} (h : LbQ g n q w) {k : Nat} (hk : k < n) (r : Rf) (a b : Int) :
    LbQ g n (fun j => if j = k then (r, (a, b)) else q j) (((w.setCell ⟨g, k * 3, none⟩ (.string (sb r))).setCell ⟨g, k * 3 + 1, none⟩ (.int .i64 a)).setCell ⟨g, k * 3 + 2, none⟩ (.int .i64 b)) := by
  refine ⟨fun j hj => ?_, fun j hj => ?_, fun j hj => ?_, fun j => ?_, ?_⟩
  · rw [cell_set (cell_set (cell_set (h.c0 j hj) (fun _ => ⟨_, rfl⟩)) (fun e => absurd e (by omega))) (fun e => absurd e (by omega)), if_neg (by omega), if_neg (by omega)]
    by_cases e : j = k
    · subst e; rw [if_pos rfl, if_pos rfl]
    · rw [if_neg (by omega), if_neg e]
  · rw [cell_set (cell_set (cell_set (h.c1 j hj) (fun e => absurd e (by omega))) (fun _ => by rw [if_neg (by omega)]; exact ⟨_, rfl⟩)) (fun e => absurd e (by omega)), if_neg (by omega)]
    by_cases e : j = k
    · subst e; rw [if_pos rfl, if_pos rfl]
    · rw [if_neg (by omega), if_neg (by omega), if_neg e]
  · rw [cell_set (cell_set (cell_set (h.c2 j hj) (fun e => absurd e (by omega))) (fun e => absurd e (by omega))) (fun _ => by rw [if_neg (by omega), if_neg (by omega)]; exact ⟨_, rfl⟩)]
    by_cases e : j = k
    · subst e; rw [if_pos rfl, if_pos rfl]
    · rw [if_neg (by omega), if_neg (by omega), if_neg (by omega), if_neg e]
  · rw [World.frozen?_setCell, World.frozen?_setCell, World.frozen?_setCell]; exact h.fz j
  · rw [World.size_setCell, World.size_setCell, World.size_setCell]; exact h.lt
/-- the numbers of a label are stored -/
theorem LbQ.put2 {g n : Nat} {q : Nat → Rf × Lb} {w : World} (h : LbQ g n q w) {k : Nat} (hk : k < n) (a b : Int) :
    LbQ g n (fun j => if j = k then ((q k).1, (a, b)) else q j) ((w.setCell ⟨g, k * 3 + 1, none⟩ (.int .i64 a)).setCell ⟨g, k * 3 + 2, none⟩ (.int .i64 b)) := by
  refine ⟨fun j hj => ?_, fun j hj => ?_, fun j hj => ?_, fun j => ?_, ?_⟩
  · rw [cell_set (cell_set (h.c0 j hj) (fun e => absurd e (by omega))) (fun e => absurd e (by omega)), if_neg (by omega), if_neg (by omega)]
    by_cases e : j = k
    · subst e; rw [if_pos rfl]
    · rw [if_neg e]
  · rw [cell_set (cell_set (h.c1 j hj) (fun _ => ⟨_, rfl⟩)) (fun e => absurd e (by omega)), if_neg (by omega)]
    by_cases e : j = k
    · subst e; rw [if_pos rfl, if_pos rfl]
    · rw [if_neg (by omega), if_neg e]
  · rw [cell_set (cell_set (h.c2 j hj) (fun e => absurd e (by omega))) (fun _ => by rw [if_neg (by omega)]; exact ⟨_, rfl⟩)]
    by_cases e : j = k
    · subst e; rw [if_pos rfl, if_pos rfl]
    · rw [if_neg (by omega), if_neg (by omega), if_neg e]
  · rw [World.frozen?_setCell, World.frozen?_setCell]; exact h.fz j
  · rw [World.size_setCell, World.size_setCell]; exact h.lt
/-- the labels of references -/
def labQ (refs : List Rf) (g : Rf → Lb) (k : Nat) : Rf × Lb := (refs.getD k [], g (refs.getD k []))
theorem LbQ.lbsR {g n : Nat} {refs : List Rf} {f : Rf → Lb} {w : World} (h : LbQ g n (labQ refs f) w) (hn : refs.length = n) (hm : n ≤ maxLen) : LbsR w (.slice (some ⟨g, 0, none⟩) n n) (labsOf refs f) := by
  have hl : (labsOf refs f).length = n := by unfold labsOf; rw [List.length_map]; exact hn
  refine ⟨lbcells_len _, some ⟨g, 0, none⟩, n, by rw [hl], by rw [hl]; exact Nat.le_refl _, hm, fun _ => ⟨g, 0, rfl, h.lt, fun j u hj => ?_⟩⟩
  have hj2 := (List.getElem?_eq_some_iff.1 hj).1
  rw [lbcells_len, hl] at hj2
  have hk : j / 3 < (labsOf refs f).length := by rw [hl]; omega
  have hk' : j / 3 < refs.length := by omega
  obtain ⟨h0, h1, h2⟩ := lbcells_at (labsOf refs f) (j / 3) hk
  have he : (labsOf refs f)[j / 3] = labQ refs f (j / 3) := by
    unfold labQ
    rw [getD_at hk']
    simp [labsOf]
  rw [he] at h0 h1 h2
  rw [Nat.zero_add]
  have hr : j % 3 = 0 ∨ j % 3 = 1 ∨ j % 3 = 2 := by omega
  rcases hr with hr | hr | hr
  · have e : j / 3 * 3 = j := by omega
    have h3 := h.c0 (j / 3) (by omega)
    rw [e] at h0 h3
    rw [h0] at hj
    rw [h3, ← hj]
  · have e : j / 3 * 3 + 1 = j := by omega
    have h3 := h.c1 (j / 3) (by omega)
    rw [e] at h1 h3
    rw [h1] at hj
    rw [h3, ← hj]
  · have e : j / 3 * 3 + 2 = j := by omega
    have h3 := h.c2 (j / 3) (by omega)
    rw [e] at h2 h3
    rw [h2] at hj
    rw [h3, ← hj]
/-- hops between references, in cells -/
def edc (e : Ed) : List Value := [.int .i64 e.u, .int .i64 e.v, .int .i64 e.d, .string (sb e.h.aw), .string (sb e.h.dst), .int .i64 e.h.lo, .int .i64 e.h.hi]
def edcells (l : List Ed) : List Value := l.flatMap edc
theorem edcells_snoc (l : List Ed) (x : Ed) : edcells (l ++ [x]) = edcells l ++ edc x := by unfold edcells; rw [List.flatMap_append]; simp
theorem edcells_len (l : List Ed) : (edcells l).length = l.length * 7 := by
  induction l with
  | nil => rfl
  | cons p l ih =>
    show (edc p ++ edcells l).length = _
    rw [List.length_append, ih, List.length_cons]
    show 7 + _ = _
    omega
theorem edcells_at (l : List Ed) : ∀ (k : Nat) (h : k < l.length) (i : Nat), i < 7 → (edcells l)[k * 7 + i]? = (edc l[k])[i]? := by
  induction l with
  | nil => intro k h; simp at h
  | cons p l ih =>
    intro k h i hi
    have e : edcells (p :: l) = edc p ++ edcells l := rfl
    have hl : (edc p).length = 7 := rfl
    rw [e]
    cases k with
    | zero => rw [List.getElem?_append_left (by omega)]; simp
    | succ k =>
      have h2 := ih k (by simpa using h) i hi
      rw [List.getElem?_append_right (by omega), hl, show (k + 1) * 7 + i - 7 = k * 7 + i by omega]
      exact h2
def EdsR (w : World) (v : Value) (l : List Ed) : Prop := Rd w 7 v l.length (edcells l)
theorem EdsR.form {w : World} {v : Value} {l : List Ed} (h : EdsR w v l) : ∃ A c, v = .slice A l.length c ∧ l.length ≤ c ∧ c ≤ maxLen := Rd.form h
theorem EdsR.at_ {w : World} {v : Value} {l : List Ed} (h : EdsR w v l) {k : Nat} (hk : k < l.length) :
    ∃ g o c, v = .slice (some ⟨g, o, none⟩) l.length c ∧ g < w.heap.size ∧ w.cell? ⟨g, o + k * 7, none⟩ = some (.int .i64 l[k].u) ∧ w.cell? ⟨g, o + k * 7 + 1, none⟩ = some (.int .i64 l[k].v) ∧ w.cell? ⟨g, o + k * 7 + 2, none⟩ = some (.int .i64 l[k].d) ∧
      w.cell? ⟨g, o + k * 7 + 3, none⟩ = some (.string (sb l[k].h.aw)) ∧ w.cell? ⟨g, o + k * 7 + 4, none⟩ = some (.string (sb l[k].h.dst)) ∧ w.cell? ⟨g, o + k * 7 + 5, none⟩ = some (.int .i64 l[k].h.lo) ∧ w.cell? ⟨g, o + k * 7 + 6, none⟩ = some (.int .i64 l[k].h.hi) := by
  obtain ⟨hl, A, c, hv, hc, hm, hr⟩ := h
  obtain ⟨g, o, rfl, hg, hx⟩ := hr (by omega)
  have ha := edcells_at l k hk
  exact ⟨g, o, c, hv, hg, hx _ _ (ha 0 (by omega)), hx _ _ (ha 1 (by omega)), hx _ _ (ha 2 (by omega)), hx _ _ (ha 3 (by omega)), hx _ _ (ha 4 (by omega)), hx _ _ (ha 5 (by omega)), hx _ _ (ha 6 (by omega))⟩
theorem HpsR.own_grown {w w' : World} {v ev : Value} {l : List Hp} {base : Nat} {e : TypeId} {size n : Nat} {xs : List Value} (h : HpsR w v l) (ho : w.ownsRow base e size ev n xs) (hg : w.grownBy w' ev.ownBlock) (hne : e ≠ 48) : HpsR w' v l := by
  refine h.grown hg fun k cur z hk he => ?_
  obtain ⟨_, ⟨rfl, _⟩ | ⟨g, cap, cur', rfl, _, hh, _⟩⟩ := ho
  · cases hk
  · injection hk with hk
    subst hk
    rw [hh] at he
    injection he with he
    injection he with _ he _
    exact hne he
theorem own_frB {w w' : World} {M M' gl : Nat} {e : TypeId} {size n : Nat} {v : Value} {xs : List Value} (h : w.ownsRow M e size v n xs) (hf : FrB M' gl w w') (h1 : gl < M) (h2 : w.heap.size ≤ M') : w'.ownsRow M e size v n xs := by
  obtain ⟨hl, h0 | ⟨g, cap, cur, hv, hb, hh, r⟩⟩ := h
  · exact ⟨hl, .inl h0⟩
  · exact ⟨hl, .inr ⟨g, cap, cur, hv, hb, (hf.block g (by have := heap_lt hh; omega) (by omega)).trans hh, r⟩⟩
theorem infoEd : (Tryz.prog.info? 97).map (fun i => (i.zero, i.size, i.bytes)) = some (some (.agg #[.int .i64 0, .int .i64 0, .int .i64 0, .string ⟨#[]⟩, .string ⟨#[]⟩, .int .i64 0, .int .i64 0]), 7, 72) := by kernel_rfl
end Go.Proofs.YtgnnblkpjankgaaGreatDoor
namespace Go.Proofs.YtgnnblkpjankgaaGreatDoor
open Go.RowKit Go.Lib
set_option linter.unusedVariables false
set_option linter.unusedSimpArgs false
/-- the result's box stands -/
structure WyZ (b : Nat) (w : World) : Prop where
  c0 : w.cell? ⟨b, 0, none⟩ = some (.slice none 0 0)
  c1 : w.cell? ⟨b, 1, none⟩ = some (.int .i64 0)
  c2 : w.cell? ⟨b, 2, none⟩ = some (.slice none 0 0)
  f0 : w.frozen? ⟨b, 0, none⟩ = false
  f1 : w.frozen? ⟨b, 1, none⟩ = false
  f2 : w.frozen? ⟨b, 2, none⟩ = false
  lt : b < w.heap.size
theorem WyZ.below {b : Nat} {w w' : World} (h : WyZ b w) (hb : Below w.heap.size w w') : WyZ b w' :=
  ⟨(hb.cell (p := ⟨b, 0, none⟩) h.lt).trans h.c0, (hb.cell (p := ⟨b, 1, none⟩) h.lt).trans h.c1, (hb.cell (p := ⟨b, 2, none⟩) h.lt).trans h.c2, (hb.frozen (p := ⟨b, 0, none⟩) h.lt).trans h.f0, (hb.frozen (p := ⟨b, 1, none⟩) h.lt).trans h.f1, (hb.frozen (p := ⟨b, 2, none⟩) h.lt).trans h.f2, Nat.lt_of_lt_of_le h.lt hb.size⟩
theorem FrB.set {B bw : Nat} {w w' : World} (h : FrB B bw w w') (j : Nat) (u : Value) : FrB B bw w (w'.setCell ⟨bw, j, none⟩ u) := h.trans (FrB.setCell (B := B) (bw := bw) w' (a := ⟨bw, j, none⟩) (.inl rfl) u)
theorem bel_start (w : World) : Below w.heap.size w w := Below.refl _ _
theorem bel_drew {w w' : World} (h : Below w.heap.size w w') : Below w.heap.size w w'.drew := h.drew
theorem bel_alloc {w w' : World} (h : Below w.heap.size w w') (o : Obj) : Below w.heap.size w (w'.alloc o) := h.alloc h.size o
theorem bel_set {w w' : World} (h : Below w.heap.size w w') {a : Addr} (ha : w.heap.size ≤ a.block) (u : Value) : Below w.heap.size w (w'.setCell a u) := h.setCell ha u
theorem bel_rel {w w' : World} {b1 b2 : Nat} (_ : b1 < w.heap.size) (_ : b2 < w.heap.size) (h : Below w.heap.size w w') : Below w.heap.size w w' := h
theorem s8_bel {b1 b2 i1 i2 : Nat} {y0 y1 y2 y3 y4 y5 y6 y7 : Option Value} {T wa : World} (hb : Below T.heap.size T wa) (h1 : b1 < T.heap.size) (h2 : b2 < T.heap.size)
    (h : T.cell? ⟨b1, 0, none⟩ = y0 ∧ T.cell? ⟨b1, 1, none⟩ = y1 ∧ T.cell? ⟨b2, i1, none⟩ = y2 ∧ T.cell? ⟨b2, i1 + 1, none⟩ = y3 ∧ T.cell? ⟨b2, i1 + 2, none⟩ = y4 ∧ T.cell? ⟨b2, i2, none⟩ = y5 ∧ T.cell? ⟨b2, i2 + 1, none⟩ = y6 ∧ T.cell? ⟨b2, i2 + 2, none⟩ = y7) :
    wa.cell? ⟨b1, 0, none⟩ = y0 ∧ wa.cell? ⟨b1, 1, none⟩ = y1 ∧ wa.cell? ⟨b2, i1, none⟩ = y2 ∧ wa.cell? ⟨b2, i1 + 1, none⟩ = y3 ∧ wa.cell? ⟨b2, i1 + 2, none⟩ = y4 ∧ wa.cell? ⟨b2, i2, none⟩ = y5 ∧ wa.cell? ⟨b2, i2 + 1, none⟩ = y6 ∧ wa.cell? ⟨b2, i2 + 2, none⟩ = y7 :=
  ⟨(hb.cell (p := ⟨b1, 0, none⟩) h1).trans h.1, (hb.cell (p := ⟨b1, 1, none⟩) h1).trans h.2.1, (hb.cell (p := ⟨b2, i1, none⟩) h2).trans h.2.2.1, (hb.cell (p := ⟨b2, i1 + 1, none⟩) h2).trans h.2.2.2.1, (hb.cell (p := ⟨b2, i1 + 2, none⟩) h2).trans h.2.2.2.2.1, (hb.cell (p := ⟨b2, i2, none⟩) h2).trans h.2.2.2.2.2.1, (hb.cell (p := ⟨b2, i2 + 1, none⟩) h2).trans h.2.2.2.2.2.2.1, (hb.cell (p := ⟨b2, i2 + 2, none⟩) h2).trans h.2.2.2.2.2.2.2⟩
theorem lbB_two (w : World) (ra rb : Rf) (a1 a2 b1 b2 : Int) (t u : TypeId) : LbB w.heap.size ra a1 a2 ((w.alloc (.cells #[.string (sb ra), .int .i64 a1, .int .i64 a2] t)).alloc (.cells #[.string (sb rb), .int .i64 b1, .int .i64 b2] u)).drew ∧
    LbB (w.heap.size + 1) rb b1 b2 ((w.alloc (.cells #[.string (sb ra), .int .i64 a1, .int .i64 a2] t)).alloc (.cells #[.string (sb rb), .int .i64 b1, .int .i64 b2] u)).drew ∧
    Below w.heap.size w ((w.alloc (.cells #[.string (sb ra), .int .i64 a1, .int .i64 a2] t)).alloc (.cells #[.string (sb rb), .int .i64 b1, .int .i64 b2] u)).drew := by
  have h1 := (LbB.new w ra a1 a2 t).below ((Below.refl _ _).alloc (Nat.le_refl _) (.cells #[.string (sb rb), .int .i64 b1, .int .i64 b2] u)).drew
  have h2 := (LbB.new (w.alloc (.cells #[.string (sb ra), .int .i64 a1, .int .i64 a2] t)) rb b1 b2 u).below (Below.refl _ _).drew
  rw [World.size_alloc] at h2
  exact ⟨h1, h2, (((Below.refl _ w).alloc (Nat.le_refl _) _).alloc (by rw [World.size_alloc]; omega) _).drew⟩
theorem s4_drew {b1 b2 : Nat} {y0 y1 y2 y3 : Option Value} {T : World} (h : T.cell? ⟨b1, 1, none⟩ = y0 ∧ T.cell? ⟨b1, 2, none⟩ = y1 ∧ T.cell? ⟨b2, 1, none⟩ = y2 ∧ T.cell? ⟨b2, 2, none⟩ = y3) :
    T.drew.cell? ⟨b1, 1, none⟩ = y0 ∧ T.drew.cell? ⟨b1, 2, none⟩ = y1 ∧ T.drew.cell? ⟨b2, 1, none⟩ = y2 ∧ T.drew.cell? ⟨b2, 2, none⟩ = y3 := h
theorem s4_keep {gl b1 b2 i : Nat} {v : Value} {y0 y1 y2 y3 : Option Value} {T : World} (h1 : gl ≠ b1) (h2 : gl ≠ b2) (h : T.cell? ⟨b1, 1, none⟩ = y0 ∧ T.cell? ⟨b1, 2, none⟩ = y1 ∧ T.cell? ⟨b2, 1, none⟩ = y2 ∧ T.cell? ⟨b2, 2, none⟩ = y3) :
    (T.setCell ⟨gl, i, none⟩ v).cell? ⟨b1, 1, none⟩ = y0 ∧ (T.setCell ⟨gl, i, none⟩ v).cell? ⟨b1, 2, none⟩ = y1 ∧ (T.setCell ⟨gl, i, none⟩ v).cell? ⟨b2, 1, none⟩ = y2 ∧ (T.setCell ⟨gl, i, none⟩ v).cell? ⟨b2, 2, none⟩ = y3 := by
  have k : ∀ b j, gl ≠ b → (T.setCell ⟨gl, i, none⟩ v).cell? ⟨b, j, none⟩ = T.cell? ⟨b, j, none⟩ := fun b j hb => World.cell?_setCell_other _ _ _ _ (fun e => by injection e with e _; exact hb e)
  exact ⟨(k _ _ h1).trans h.1, (k _ _ h1).trans h.2.1, (k _ _ h2).trans h.2.2.1, (k _ _ h2).trans h.2.2.2⟩
theorem LbQ.drew' {g n : Nat} {q : Nat → Rf × Lb} {w : World} (h : LbQ g n q w) : Hid (LbQ g n q w.drew) := h.below (Below.refl _ _).drew
theorem FrB.drew' {B bw : Nat} {w w' : World} (h : FrB B bw w w') : Hid (FrB B bw w w'.drew) := ⟨h.os, h.tape, h.output, h.size, h.block⟩
theorem hp_one : ∀ (l : List Hp), ∀ u ∈ hpcells l, u.oneCell' = true
  | [], u, h => by cases h
  | a :: l, u, h => by
    have e : hpcells (a :: l) = hpc a ++ hpcells l := rfl
    rw [e, List.mem_append] at h
    rcases h with h | h
    · simp only [hpc, List.mem_cons, List.not_mem_nil, or_false] at h
      rcases h with rfl | rfl | rfl | rfl <;> rfl
    · exact hp_one l u h
/-- the way that is being built: its end, so far -/
def WvR (B : Nat) (w : World) (v : Value) (hs : List Hp) : Prop := (hs = [] ∧ v = .slice none 0 0) ∨ ∃ g c, v = .slice (some ⟨g, 0, none⟩) hs.length c ∧ 0 < hs.length ∧ B ≤ g ∧ HpsR w v hs
/-- the labels while they are being laid -/
def bq (refs : List Rf) (k j : Nat) : Rf × Lb := if j < k then (refs.getD j [], inf) else ([], (0, 0))
theorem edsOf_take {hp : Rf → List Hp} {wt : Rf → Rf → Int} {refs : List Rf} {i j : Nat} {r : Rf} (hj : j < (hp r).length) :
    (edsOf hp wt refs i r).take (j + 1) = (edsOf hp wt refs i r).take j ++ [⟨i, plc (hp r)[j].dst refs, wt r (hp r)[j].dst, (hp r)[j]⟩] := by
  have hl : j < (edsOf hp wt refs i r).length := by rw [edsOf_len]; exact hj
  rw [List.take_add_one, List.getElem?_eq_getElem hl]
  simp [edsOf]
set_option maxRecDepth 100000 in
set_option maxHeartbeats 8000000 in
theorem rshortest_any (v fv : Value) (L : List Aw) (F : List Fx) (a b : ByteArray) (f : Rf → Lb) (w : World) (h : AwsR w v L) (hf : FxsR w fv F) (hz : SzL F) (ha : a.size ≤ maxLen) (hb : b.size ≤ maxLen)
    (hfl : OpenIs L F (bl a) (bl b) 0 → bl b ∈ reachL L (bl a) → LeastOf L F (bl a) f) :
    Calls Tryz.prog 11 #[v, fv, .string a, .string b] w (ShPost L F (bl a) (bl b) f w) := by
  obtain ⟨il, hil, hy0, hy1, hy2⟩ := info_parts infoLb
  obtain ⟨ie, hie, he0, he1, he2⟩ := info_parts infoEd
  obtain ⟨ih, hih, hh0, hh1, hh2⟩ := info_parts infoHp
  obtain ⟨s, rfl⟩ : ∃ s, a = sb s := ⟨bl a, (sb_bl a).symm⟩
  obtain ⟨t, rfl⟩ : ∃ t, b = sb t := ⟨bl b, (sb_bl b).symm⟩
  have hsl : s.length ≤ maxLen := ha
  have htl : t.length ≤ maxLen := hb
  rw [bl_sb, bl_sb] at hfl ⊢
  have H := Lib.hid h
  have HF := Lib.hid hf
  have HZ := Lib.hid hz
  have HFL := Lib.hid hfl
  obtain ⟨w0, hw0⟩ : ∃ W, w.alloc (.cells #[.slice none 0 0, .int .i64 0, .slice none 0 0] 27) = W := ⟨_, rfl⟩
  have B0 : Hid (Below w.heap.size w w0) := by rw [← hw0]; exact (Below.refl _ _).alloc (Nat.le_refl _) _
  have Z0 : Hid (WyZ w.heap.size w0) := by
    have h7 : w0.cell? ⟨w.heap.size, 0, none⟩ = some (.slice none 0 0) ∧ w0.cell? ⟨w.heap.size, 1, none⟩ = some (.int .i64 0) ∧ w0.cell? ⟨w.heap.size, 2, none⟩ = some (.slice none 0 0) ∧ w0.frozen? ⟨w.heap.size, 0, none⟩ = false ∧ w0.frozen? ⟨w.heap.size, 1, none⟩ = false ∧ w0.frozen? ⟨w.heap.size, 2, none⟩ = false ∧ w.heap.size < w0.heap.size := by rw [← hw0]; simp [go_sem]
    obtain ⟨k0, k1, k2, k3, k4, k5, k6⟩ := h7
    exact ⟨k0, k1, k2, k3, k4, k5, k6⟩
  clear h hf hz hfl
  go_enter Tryz.func11, Tryz.ntmps11
  go_wp2_with fail
  try rw [hw0]
  clear hw0
  refine (ready_any v fv L F (sb s) (sb t) _ (H.out.below B0.out) (HF.out.below B0.out) HZ.out).mono ?_
  rintro e w1 ⟨er, rfl, hop, hb1⟩
  rw [bl_sb, bl_sb] at hop
  have HOP := Lib.hid hop
  have B1 := Lib.hid (Below.then_ B0.out hb1)
  have Z1 := Lib.hid (Z0.out.below hb1)
  clear hop hb1 Z0 B0
  by_cases h0 : er = 0
  case neg =>
    obtain ⟨c0, c1, c2, f0, f1, f2, lt⟩ := Z1.out
    have e0 : (er != 0) = true := bne_iff_ne.2 h0
    have H0 := Lib.hid h0
    have HE : Hid (Below w.heap.size w (((w1.setCell ⟨w.heap.size, 0, none⟩ (.slice none 0 0)).setCell ⟨w.heap.size, 1, none⟩ (.int .i64 0)).setCell ⟨w.heap.size, 2, none⟩ (.slice none 0 0))) := ((B1.out.setCell (Nat.le_refl _) _).setCell (Nat.le_refl _) _).setCell (Nat.le_refl _) _
    clear h0
    go_wp2
    refine bodyPost_ret (v := .tuple #[.agg #[.slice none 0 0, .int .i64 0, .slice none 0 0], .int .i64 er]) (by simp [results, Tryz.results11, go_sem, c0, c1, c2]; try rfl) rfl ?_
    exact ⟨_, _, _, _, rfl, HE.out, .inl ⟨H0.out, rfl, rfl, rfl, .inl HOP.out⟩⟩
  subst h0
  have hc0 := HOP.out.zero.1
  have HC := Lib.hid hc0
  have hlL := chkL_few hc0
  clear hc0
  go_wp2_with fail
  refine (rreach_any v L (sb s) _ (H.out.below B1.out) hlL (chkL_refs HC.out)).mono ?_
  rintro e w2 ⟨vr, rfl, hvr, hb2⟩
  rw [bl_sb] at hvr
  obtain ⟨R, hR⟩ : ∃ R, reachL L s = R := ⟨_, rfl⟩
  rw [hR] at hvr
  have HR := Lib.hid hR
  have HRS : Hid (Refs (hopsL L) R) := by rw [← hR]; exact reach_refs L s
  have HRF : Hid (∀ u ∈ R, u.length ≤ maxLen) := by rw [← hR]; exact reach_fit HC.out hsl
  have HRL : Hid (R.length ≤ 2401) := by rw [← hR]; exact reach_len HC.out s
  have HSR : Hid (s ∈ R) := by rw [← hR]; exact reach_self L s
  have HVR := Lib.hid hvr
  have B2 := Lib.hid (Below.then_ B1.out hb2)
  have Z2 := Lib.hid (Z1.out.below hb2)
  clear hR hvr hb2 Z1 B1
  go_wp2_with fail
  refine (place_any vr R (sb t) _ HVR.out).mono ?_
  rintro e w2' ⟨bt, rfl, hbt, rfl⟩
  rw [bl_sb] at hbt ⊢
  by_cases htR : t ∈ R
  case neg =>
    have hbf : bt = false := by
      rw [hbt.out]
      refine decide_eq_false fun h1 => htR ((plc_mem t R HRS.out.srt).2 h1)
    subst hbf
    have HNO : Hid (t ∉ reachL L s) := by rw [HR.out]; exact htR
    obtain ⟨c0, c1, c2, f0, f1, f2, lt⟩ := Z2.out
    have HE : Hid (Below w.heap.size w (((w2.setCell ⟨w.heap.size, 0, none⟩ (.slice none 0 0)).setCell ⟨w.heap.size, 1, none⟩ (.int .i64 0)).setCell ⟨w.heap.size, 2, none⟩ (.slice none 0 0))) := ((B2.out.setCell (Nat.le_refl _) _).setCell (Nat.le_refl _) _).setCell (Nat.le_refl _) _
    clear htR hbt
    go_wp2
    refine bodyPost_ret (v := .tuple #[.agg #[.slice none 0 0, .int .i64 0, .slice none 0 0], .int .i64 10]) (by simp [results, Tryz.results11, go_sem, c0, c1, c2]; try rfl) rfl ?_
    exact ⟨_, _, _, _, rfl, HE.out, .inl ⟨by decide, rfl, rfl, rfl, .inr ⟨HOP.out, HNO.out, rfl⟩⟩⟩
  have hbf : bt = true := by
    rw [hbt.out]
    exact decide_eq_true ((plc_mem t R HRS.out.srt).1 htR)
  subst hbf
  have HTR := Lib.hid htR
  have HLE : Hid (LeastOf L F s f) := HFL.out HOP.out (by rw [HR.out]; exact htR)
  clear htR hbt HFL
  go_wp2_with fail
  refine (place_any vr R (sb s) _ HVR.out).mono ?_
  rintro e w2' ⟨bs, rfl, hbs, rfl⟩
  rw [bl_sb] at hbs ⊢
  obtain ⟨ks, hks⟩ : ∃ k, plc s R = k := ⟨_, rfl⟩
  obtain ⟨kt, hkt⟩ : ∃ k, plc t R = k := ⟨_, rfl⟩
  rw [hks] at hbs ⊢
  rw [hkt]
  have HKS : Hid (∃ h : ks < R.length, R[ks] = s) := by rw [← hks]; exact HRS.out.at_ HSR.out
  have HKT : Hid (∃ h : kt < R.length, R[kt] = t) := by rw [← hkt]; exact HRS.out.at_ HTR.out
  have HPS := Lib.hid hks
  have HPT := Lib.hid hkt
  obtain ⟨Ar, cr, rfl, hcr, hcrm⟩ := HVR.out.form
  unfold maxLen at hcrm
  obtain ⟨n, hn⟩ : ∃ n, R.length = n := ⟨_, rfl⟩
  have HN := Lib.hid hn
  have hn24 : n ≤ 2401 := by have := HRL.out; omega
  rw [hn] at HVR hcr ⊢
  have hmk : ∀ W : World, (Instr.makeSlice 25 (.int .i64 (n : Int)) (.int .i64 (n : Int))).run Tryz.prog W = .ok (.slice (some ⟨W.heap.size, 0, none⟩) n n) (W.alloc (.cells (madeCells #[.string ⟨#[]⟩, .int .i64 0, .int .i64 0] (n * 3)) 59)) := fun W => by
    have h := run_make W 25 59 il (.agg #[.string ⟨#[]⟩, .int .i64 0, .int .i64 0]) Tryz.underlying25 hil hy0 .i64 .i64 (n : Int) (n : Int) (by omega) (by omega) (by rw [hy2]; omega) (by omega)
    rw [hy1, Int.toNat_natCast] at h
    exact h
  obtain ⟨w3, hw3⟩ : ∃ W, w2.alloc (.cells (madeCells #[.string ⟨#[]⟩, .int .i64 0, .int .i64 0] (n * 3)) 59) = W := ⟨_, rfl⟩
  have HW3 := Lib.hid hw3
  have B23 : Hid (Below w2.heap.size w2 w3) := by rw [← hw3]; exact (Below.refl _ _).alloc (Nat.le_refl _) _
  have Q3 : Hid (LbQ w2.heap.size n (bq R 0) w3) := by rw [← hw3]; exact (LbQ.made n _ w2).congr (fun k _ => by unfold bq; rw [if_neg (by omega)])
  have S3 : Hid (w3.heap.size = w2.heap.size + 1) := by rw [← hw3]; unfold Hid; simp
  clear hbs hks hkt hn hw3
  go_wp2_with fail
  rw [HW3.out]
  clear HW3 hmk
  have hF4 := HOP.out.zero.2
  go_loopw [16, 69] (fun ev iv wr => ∃ k : Nat, k ≤ n ∧ iv = .int .i64 k ∧ Hid (wr.ownsRow w3.heap.size 97 7 ev (edsN (hopsL L) (wtF F) R k).length (edcells (edsN (hopsL L) (wtF F) R k))) ∧ Hid (LbQ w2.heap.size n (bq R k) wr) ∧ Hid (FrB w3.heap.size w2.heap.size w3 wr)) (fun _ iv _ => n - (intOf iv).toNat)
  case atStart => exact ⟨0, Nat.zero_le _, by first | rfl | go_num, Lib.hid (World.ownsRow_nil _ _ _ _), Q3, Lib.hid (FrB.refl _ _ _)⟩
  case round =>
    obtain ⟨k, hk, rfl, hown, hlq, hfr⟩ := hrel
    have hs3 := S3.out
    by_cases hlt : k < n
    · have hkR : k < R.length := by rw [HN.out]; exact hlt
      have BW : Hid (Below w2.heap.size w2 wr) := B23.out.trans (hfr.out.to_below (by omega) (Nat.le_refl _))
      obtain ⟨gr, og, cg, hA, hgr, y0⟩ := (HVR.out.below BW.out).at_ hkR
      rw [HN.out] at hA
      simp only [Value.slice.injEq, true_and] at hA
      obtain ⟨rfl, rfl⟩ := hA
      have hrR : R[k] ∈ R := List.getElem_mem hkR
      have hEK : Hid (edsN (hopsL L) (wtF F) R (k + 1) = edsN (hopsL L) (wtF F) R k ++ edsOf (hopsL L) (wtF F) R k R[k]) := by
        show edsN (hopsL L) (wtF F) R k ++ edsOf (hopsL L) (wtF F) R k (R.getD k []) = _
        rw [getD_at hkR]
      have hgk : R.getD k [] = R[k] := getD_at hkR
      obtain ⟨r, hr⟩ : ∃ r, R[k] = r := ⟨_, rfl⟩
      rw [hr] at y0 hrR hEK hgk
      have hfit := HRF.out r hrR
      have l0 := hlq.out.c0 k hlt
      have l1 := hlq.out.c1 k hlt
      have l2 := hlq.out.c2 k hlt
      have lf0 := hlq.out.fz (k * 3)
      have lf1 := hlq.out.fz (k * 3 + 1)
      have lf2 := hlq.out.fz (k * 3 + 2)
      obtain ⟨w4, hw4⟩ : ∃ W, ((wr.setCell ⟨w2.heap.size, k * 3, none⟩ (.string (sb r))).setCell ⟨w2.heap.size, k * 3 + 1, none⟩ (.int .i64 4611686018427387904)).setCell ⟨w2.heap.size, k * 3 + 2, none⟩ (.int .i64 4611686018427387904) = W := ⟨_, rfl⟩
      have HW4 := Lib.hid hw4
      have F4 : Hid (FrB w3.heap.size w2.heap.size w3 w4) := by
        rw [← hw4]
        exact ((hfr.out.set _ _).set _ _).set _ _
      have Q4 : Hid (LbQ w2.heap.size n (bq R (k + 1)) w4) := by
        rw [← hw4]
        refine (hlq.out.put3 hlt r 4611686018427387904 4611686018427387904).congr fun j hj => ?_
        unfold bq
        by_cases e : j = k
        · subst e; rw [if_pos (by omega), if_pos rfl, hgk]; rfl
        · rw [if_neg e]
          by_cases e2 : j < k
          · rw [if_pos e2, if_pos (by omega)]
          · rw [if_neg e2, if_neg (by omega)]
      have O4 : Hid (w4.ownsRow w3.heap.size 97 7 u16 (edsN (hopsL L) (wtF F) R k).length (edcells (edsN (hopsL L) (wtF F) R k))) := by
        rw [← hw4]; exact own_setlow (g := w2.heap.size) (own_setlow (g := w2.heap.size) (own_setlow (g := w2.heap.size) hown.out (by omega) _ _) (by omega) _ _) (by omega) _ _
      have BW4 : Hid (Below w2.heap.size w2 w4) := B23.out.trans (F4.out.to_below (by omega) (Nat.le_refl _))
      clear hw4 hr hgk hown hlq hfr BW hrR hkR hgr hs3
      go_wp2_with fail
      rw [HW4.out]
      clear HW4
      refine (hops_rindex_any v L (sb r) _ (H.out.below (Below.then_ B2.out BW4.out)) hlL).mono ?_
      rintro e w5 ⟨vh, rfl, hvh, hb5⟩
      rw [bl_sb] at hvh
      have hs34 : w3.heap.size ≤ w4.heap.size := F4.out.size
      have F5 : Hid (FrB w3.heap.size w2.heap.size w3 w5) := F4.out.trans (FrB.below hb5 hs34)
      have Q5 := Lib.hid (Q4.out.below hb5)
      have O5 := Lib.hid (own_below O4.out hb5)
      have hs35 : w3.heap.size ≤ w5.heap.size := F5.out.size
      have hhl := hopsL_len L r
      have HFT : Hid (∀ p ∈ hopsL L r, p.dst.length ≤ maxLen) := fun p hp => chkL_fit HC.out p.dst (nxt_mem L r p.dst (List.mem_map.2 ⟨p, hp, rfl⟩))
      have HEL : Hid ((edsOf (hopsL L) (wtF F) R k r).length = (hopsL L r).length) := edsOf_len k r
      obtain ⟨EK, hek⟩ : ∃ l, edsOf (hopsL L) (wtF F) R k r = l := ⟨_, rfl⟩
      rw [hek] at hEK HEL
      obtain ⟨hl, hhe⟩ : ∃ l, hopsL L r = l := ⟨_, rfl⟩
      rw [hhe] at hvh hhl HFT HEL
      have HTKE : Hid (∀ j, (hj : j < hl.length) → EK.take (j + 1) = EK.take j ++ [⟨k, plc hl[j].dst R, wtF F r hl[j].dst, hl[j]⟩]) := by
        subst hhe; subst hek; exact fun j hj => edsOf_take hj
      have HEN : Hid ((edsN (hopsL L) (wtF F) R k).length ≤ k * 120) := eds_len (fun x => by have := hopsL_len L x; omega) k
      obtain ⟨EN, hen⟩ : ∃ l, edsN (hopsL L) (wtF F) R k = l := ⟨_, rfl⟩
      rw [hen] at hEK O5 HEN
      obtain ⟨A5, c5, rfl, hc51, hc52⟩ := hvh.form
      unfold maxLen at hc52
      obtain ⟨m, hm⟩ : ∃ k, hl.length = k := ⟨_, rfl⟩
      have HM5 := Lib.hid hm
      have HV5 := Lib.hid hvh
      rw [hm] at hc51 hhl HV5 HEL ⊢
      have hk120 : k * 120 ≤ 288120 := by omega
      clear hvh hhe hek hen hm hb5 Q4 O4 F4 y0 l0 l1 l2 lf0 lf1 lf2 BW4 hs34
      go_wp2_with fail
      go_loopw [16, 83] (fun ev jv wr => ∃ j : Nat, j ≤ m ∧ jv = .int .i64 j ∧ Hid (wr.ownsRow w3.heap.size 97 7 ev (EN ++ EK.take j).length (edcells (EN ++ EK.take j))) ∧ Hid (LbQ w2.heap.size n (bq R (k + 1)) wr) ∧ Hid (HpsR wr (.slice A5 m c5) hl) ∧ Hid (FrB w3.heap.size w2.heap.size w5 wr)) (fun _ jv _ => m - (intOf jv).toNat)
      case atStart => exact ⟨0, Nat.zero_le _, by first | rfl | go_num, by rw [List.take_zero, List.append_nil]; exact O5, Q5, HV5, Lib.hid (FrB.refl _ _ _)⟩
      case round =>
        obtain ⟨j, hj, rfl, hown, hlq, hhp, hfr⟩ := hrel
        by_cases hlt2 : j < m
        · have hjl : j < hl.length := by rw [HM5.out]; exact hlt2
          obtain ⟨g5, o5, c5', hA, hg5, x0, x1, x2, x3⟩ := hhp.out.at_ hjl
          rw [HM5.out] at hA
          simp only [Value.slice.injEq, true_and] at hA
          obtain ⟨rfl, rfl⟩ := hA
          have hpf := HFT.out _ (List.getElem_mem hjl)
          have hTK := Lib.hid (HTKE.out j hjl)
          obtain ⟨p, hp⟩ : ∃ z, hl[j] = z := ⟨_, rfl⟩
          rw [hp] at x0 x1 x2 x3 hpf hTK
          obtain ⟨w7, hw7⟩ : ∃ W, wr.alloc (.cells #[.string (sb p.aw), .string (sb p.dst), .int .i64 p.lo, .int .i64 p.hi] 48) = W := ⟨_, rfl⟩
          have HW7 := Lib.hid hw7
          have B7 : Hid (Below wr.heap.size wr w7) := by rw [← hw7]; exact (Below.refl _ _).alloc (Nat.le_refl _) _
          have N7 : Hid (w7.cell? ⟨wr.heap.size, 0, none⟩ = some (.string (sb p.aw)) ∧ w7.cell? ⟨wr.heap.size, 1, none⟩ = some (.string (sb p.dst)) ∧ w7.cell? ⟨wr.heap.size, 2, none⟩ = some (.int .i64 p.lo) ∧ w7.cell? ⟨wr.heap.size, 3, none⟩ = some (.int .i64 p.hi) ∧ wr.heap.size < w7.heap.size) := by rw [← hw7]; unfold Hid; simp [go_sem]
          have hs3r : w3.heap.size ≤ wr.heap.size := Nat.le_trans hs35 hfr.out.size
          have hs3 := S3.out
          have BW7 : Hid (Below w2.heap.size w2 w7) := (B23.out.trans ((F5.out.trans hfr.out).to_below (by omega) (Nat.le_refl _))).trans (B7.out.mono (by omega))
          have HR7 := Lib.hid (HVR.out.below BW7.out)
          have HF7 := Lib.hid (HF.out.below (Below.then_ B2.out BW7.out))
          clear hp hw7 hjl hs3
          go_wp2_with fail
          rw [HW7.out]
          clear HW7
          refine (place_any _ R (sb p.dst) _ HR7.out).mono ?_
          rintro e w7' ⟨bk, rfl, hbk, rfl⟩
          rw [bl_sb] at hbk ⊢
          obtain ⟨n0, n1, n2, n3, nlt⟩ := N7.out
          obtain ⟨kv, hkv⟩ : ∃ k, plc p.dst R = k := ⟨_, rfl⟩
          rw [hkv] at hTK ⊢
          clear hbk hkv
          go_wp2_with fail
          refine (rlength_any fv F (sb r) (sb p.dst) _ HF7.out HZ.out (by omega)).mono ?_
          rintro e w8 ⟨rfl, hb8⟩
          rw [bl_sb, bl_sb]
          obtain ⟨dd, hdd⟩ : ∃ d, wtF F r p.dst = d := ⟨_, rfl⟩
          rw [hdd] at hTK ⊢
          have B8 := Lib.hid (Below.then_ B7.out hb8)
          have m0 := (hb8.cell (p := ⟨wr.heap.size, 0, none⟩) nlt).trans n0
          have m1 := (hb8.cell (p := ⟨wr.heap.size, 1, none⟩) nlt).trans n1
          have m2 := (hb8.cell (p := ⟨wr.heap.size, 2, none⟩) nlt).trans n2
          have m3 := (hb8.cell (p := ⟨wr.heap.size, 3, none⟩) nlt).trans n3
          have hs8 : wr.heap.size < w8.heap.size := Nat.lt_of_lt_of_le nlt hb8.size
          obtain ⟨w9, hw9⟩ : ∃ W, w8.alloc (.cells #[.int .i64 (k : Int), .int .i64 (kv : Int), .int .i64 dd, .string (sb p.aw), .string (sb p.dst), .int .i64 p.lo, .int .i64 p.hi] 97) = W := ⟨_, rfl⟩
          have HW9 := Lib.hid hw9
          have B9 : Hid (Below wr.heap.size wr w9) := by rw [← hw9]; exact Below.then_ B8.out ((Below.refl _ _).alloc (Nat.le_refl _) _)
          have N9 : Hid (w9.heap[w8.heap.size]? = some (.cells #[.int .i64 (k : Int), .int .i64 (kv : Int), .int .i64 dd, .string (sb p.aw), .string (sb p.dst), .int .i64 p.lo, .int .i64 p.hi] 97 (0, 0))) := by rw [← hw9]; exact heap_alloc_new _ _
          have own9 := own_below hown.out B9.out
          have Q9 := Lib.hid (hlq.out.below B9.out)
          have P9 := Lib.hid (hhp.out.below B9.out)
          have hlen : (EN ++ EK.take j).length ≤ 288240 := by
            rw [List.length_append, List.length_take]
            have := HEN.out; have := HEL.out; omega
          obtain ⟨le, hle⟩ : ∃ x, (EN ++ EK.take j).length = x := ⟨_, rfl⟩
          rw [hle] at own9 hlen
          have HLE2 := Lib.hid hle
          clear hle
          clear hw9 hb8 n0 n1 n2 n3 nlt hdd x0 x1 x2 x3 hg5 hown hlq hhp
          go_wp2_with (first | (at_builtin; rw [HW9.out]; refine wpList_append_lies _ rfl _ _ 95 rfl w3.heap.size 97 ie (.agg #[.int .i64 0, .int .i64 0, .int .i64 0, .string ⟨#[]⟩, .string ⟨#[]⟩, .int .i64 0, .int .i64 0]) 7 72 Tryz.underlying95 hie he0 he1 he2 rfl (by decide) _ _ _ rfl own9 ⟨w8.heap.size, 0, none⟩ 1 1 [.int .i64 (k : Int), .int .i64 (kv : Int), .int .i64 dd, .string (sb p.aw), .string (sb p.dst), .int .i64 p.lo, .int .i64 p.hi] rfl rfl (World.news_of_block N9.out) (by simp [Value.oneCell']) (by decide) (by unfold maxLen; omega) (by omega) (by have := B9.out.size; omega) _ rfl ?_))
          intro gg cap w10 hown10 hgrow hat hlt10
          have ON : Hid (w10.ownsRow w3.heap.size 97 7 (.slice (some ⟨gg, 0, none⟩) (le + 1) cap) (EN ++ EK.take (j + 1)).length (edcells (EN ++ EK.take (j + 1)))) := by
            unfold Hid
            rw [hTK.out, ← List.append_assoc, edcells_snoc, List.length_append, HLE2.out]
            exact hown10
          have hgne : some w2.heap.size ≠ u16.ownBlock := fun h => by have := (own9.lt _ h.symm).1; have := S3.out; omega
          have QN := Lib.hid (Q9.out.grw hgrow hgne)
          have PN := Lib.hid (P9.out.own_grown own9 hgrow (by decide))
          have FN : Hid (FrB w3.heap.size w2.heap.size w5 w10) := (hfr.out.trans (FrB.below B9.out hs3r)).trans (FrB.grown hgrow (by have := B9.out.size; omega) (fun k hk => .inl (own9.lt _ hk).1))
          clear hown10 hgrow hat hlt10 own9 Q9 P9 hgne hfr m0 m1 m2 m3 N9 N7 HW9 BW7 HR7 HF7 B7 B8 B9
          go_wp2
          go_roundw
          case rel => exact ⟨j + 1, hlt2, by go_num, ON, QN, PN, FN⟩
          case measure => simp [intOf]; omega
        · have hjm : j = m := by omega
          subst hjm
          have HT : EK.take j = EK := List.take_of_length_le (by rw [HEL.out]; exact Nat.le_refl _)
          rw [HT, ← hEK.out] at hown
          have FN : Hid (FrB w3.heap.size w2.heap.size w3 wr) := F5.out.trans hfr.out
          clear HT hfr hhp
          go_wp2
          go_roundw
          case rel => exact ⟨k + 1, hlt, by go_num, hown, hlq, FN⟩
          case measure => simp [intOf]; omega
    · have hkn : k = n := by omega
      subst hkn
      have HTRI : Hid (Opt (ends (hopsL L)) (wtF F) s (fun v => v ∈ R) f) := by
        unfold Hid; rw [← HR.out]; exact HLE.out.opt
      have HSML : Hid (Small (wtF F) (fun v => v ∈ R) f 64800000) := ⟨fun u v => (wtF_bd F u v).1, fun u v => (wtF_bd F u v).2, fun v hv => by have := HLE.out.bd v (by rw [HR.out]; exact hv); omega⟩
      have HEO0 := fun e he => eds_ok (wt := wtF F) HRS.out (k := k) (by rw [HN.out]; exact Nat.le_refl _) e he
      have HPO0 := prs_hopping (wt := wtF F) HRS.out (k := k) (by rw [HN.out]; exact Nat.le_refl _)
      have HPA0 : ∀ u ∈ R, ∀ v ∈ ends (hopsL L) u, (u, v) ∈ prs R (edsN (hopsL L) (wtF F) R k) := by
        intro u hu v hv
        obtain ⟨i, hi, rfl⟩ := List.getElem_of_mem hu
        exact prs_all HRS.out (by rw [HN.out]; exact Nat.le_refl _) i hi (by rw [← HN.out]; exact hi) v hv
      have hel0 : (edsN (hopsL L) (wtF F) R k).length ≤ k * 120 := eds_len (fun x => by have := hopsL_len L x; omega) k
      have HEN : Hid (edsN (hopsL L) (wtF F) R R.length = edsN (hopsL L) (wtF F) R k) := by unfold Hid; rw [HN.out]
      obtain ⟨E, hE⟩ : ∃ l, edsN (hopsL L) (wtF F) R k = l := ⟨_, rfl⟩
      rw [hE] at hown HEO0 HPO0 HPA0 hel0 HEN
      have HEO : Hid (∀ j, (hj : j < E.length) → EdOk (hopsL L) (wtF F) R k E[j]) := fun j hj => HEO0 _ (List.getElem_mem hj)
      have HPO := Lib.hid HPO0
      have HPA := Lib.hid HPA0
      obtain ⟨e, he⟩ : ∃ x, E.length = x := ⟨_, rfl⟩
      have HEE := Lib.hid he
      have heb : e ≤ 288120 := by rw [← he]; omega
      obtain ⟨hksl, hkse⟩ := HKS.out
      have hksn : ks < k := by rw [← HN.out]; exact hksl
      have l1 := hlq.out.c1 ks hksn
      have l2 := hlq.out.c2 ks hksn
      have lf1 := hlq.out.fz (ks * 3 + 1)
      have lf2 := hlq.out.fz (ks * 3 + 2)
      obtain ⟨w4, hw4⟩ : ∃ W, (wr.setCell ⟨w2.heap.size, ks * 3 + 1, none⟩ (.int .i64 0)).setCell ⟨w2.heap.size, ks * 3 + 2, none⟩ (.int .i64 0) = W := ⟨_, rfl⟩
      have HW4 := Lib.hid hw4
      have Q4 : Hid (LbQ w2.heap.size k (labQ R (fun v => if v = s then (0, 0) else inf)) w4) := by
        rw [← hw4]
        refine (hlq.out.put2 hksn 0 0).congr fun j hj => ?_
        have hjR : j < R.length := by rw [HN.out]; exact hj
        unfold labQ
        rw [getD_at hjR]
        by_cases e : j = ks
        · subst e
          rw [if_pos rfl, hkse]
          show (s, (if s = s then ((0 : Int), (0 : Int)) else inf)) = _
          rw [if_pos rfl]
          unfold bq
          rw [if_pos hj, getD_at hjR, hkse]
        · rw [if_neg e]
          have hne : R[j] ≠ s := fun h => e (HRS.out.inj hjR hksl (by rw [h, hkse]))
          show (R[j], (if R[j] = s then ((0 : Int), (0 : Int)) else inf)) = _
          rw [if_neg hne]
          unfold bq
          rw [if_pos hj, getD_at hjR]
      have F4 : Hid (FrB w3.heap.size w2.heap.size w3 w4) := by
        rw [← hw4]; exact (hfr.out.set _ _).set _ _
      have O4 : Hid (w4.ownsRow w3.heap.size 97 7 u16 e (edcells E)) := by
        rw [← hw4, ← he]; exact own_setlow (g := w2.heap.size) (own_setlow (g := w2.heap.size) hown.out (by omega) _ _) (by omega) _ _
      obtain ⟨Ae, ce, rfl, hce, hcem⟩ := (Rd.of_own O4.out : Rd w4 7 u16 e (edcells E)).form
      unfold maxLen at hcem
      have hs34 : w3.heap.size ≤ w4.heap.size := F4.out.size
      have RX4 : Hid (Rlx s (fun v => v ∈ R) f 64800000 ((0 : Nat) : Int) (fun v => if v = s then (0, 0) else inf)) := Rlx.start HTRI.out HSML.out
      have hoff := off_bd f (fun v => if v = s then (0, 0) else inf) R
      rw [HN.out] at hoff
      clear hown hlq hfr HEO0 HPO0 HPA0 hel0 hE he hw4 hksl hkse Q3 HSR hs3 hs34
      go_wp2_with fail
      rw [HW4.out]
      clear HW4 l1 l2 lf1 lf2
      go_loopg [26] (2 * k + 1) (fun g bv wr => ∃ (bt : Bool) (gf : Rf → Lb) (c mm : Nat), bv = .bool bt ∧ Hid (LbQ w2.heap.size k (labQ R gf) wr) ∧ Hid (Rlx s (fun v => v ∈ R) f 64800000 ((c * e : Nat) : Int) gf) ∧ Hid (bt = false → ∀ v ∈ R, gf v = f v) ∧ Hid (mm = 2 * off R f gf + bt.toNat) ∧ c + mm ≤ 2 * k + 1 ∧ mm ≤ g ∧ Hid (FrB w4.heap.size w2.heap.size w4 wr))
      case atStart => exact ⟨true, _, 0, _, rfl, Q4, by rw [Nat.zero_mul]; exact RX4, Lib.hid (fun h => by cases h), rfl, by simp; omega, by simp; omega, Lib.hid (FrB.refl _ _ _)⟩
      case round =>
        obtain ⟨bt, gf, c, mm, rfl, hlq, hrx, hdone, hmm, hcm, hmg, hfr⟩ := hrel
        cases bt
        case true =>
          go_wp2_with fail
          go_loopw [26, 123] (fun bv jv wr => ∃ (j : Nat) (b2 : Bool) (g2 : Rf → Lb), j ≤ e ∧ jv = .int .i64 j ∧ bv = .bool b2 ∧ Hid (rxs (wtF F) ((prs R E).take j) (gf, false) = (g2, b2)) ∧ Hid (LbQ w2.heap.size k (labQ R g2) wr) ∧ Hid (FrB w4.heap.size w2.heap.size w4 wr)) (fun _ jv _ => e - (intOf jv).toNat)
          case atStart => exact ⟨0, false, gf, Nat.zero_le _, by first | rfl | go_num, rfl, Lib.hid (by rw [List.take_zero]; rfl), hlq, hfr⟩
          case round =>
            clear hlq hfr
            obtain ⟨j, b2, g2, hj, rfl, rfl, hst, hlq, hfr⟩ := hrel
            by_cases hlt : j < e
            · have hjE : j < E.length := by rw [HEE.out]; exact hlt
              have hO : w4.heap.size ≤ wr.heap.size := hfr.out.size
              have ER : Hid (EdsR wr (.slice Ae e ce) E) := by
                have h1 := Rd.of_own (own_frB O4.out hfr.out (by have := S3.out; omega) (Nat.le_refl _))
                unfold Hid EdsR
                rw [HEE.out]; exact h1
              obtain ⟨g5, o5, c5, hA, hg5, x0, x1, x2, x3, x4, x5, x6⟩ := ER.out.at_ hjE
              rw [HEE.out] at hA
              simp only [Value.slice.injEq, true_and] at hA
              obtain ⟨rfl, rfl⟩ := hA
              have hok := HEO.out j hjE
              have hpr : Hid ((prs R E).take (j + 1) = (prs R E).take j ++ [(R.getD E[j].u [], R.getD E[j].v [])]) := by
                have hl : j < (prs R E).length := by unfold prs; rw [List.length_map]; exact hjE
                unfold Hid
                rw [List.take_add_one, List.getElem?_eq_getElem hl]
                simp [prs]
              have hRX : Rlx s (fun v => v ∈ R) f 64800000 ((c * e : Nat) + (j : Int)) g2 := by
                have h1 := (Rlx.many HTRI.out HSML.out hrx.out false ((prs R E).take j) (HPO.out.take j)).1
                rw [hst.out, List.length_take] at h1
                have h2 : min j (prs R E).length = j := Nat.min_eq_left (by unfold prs; rw [List.length_map, HEE.out]; exact hj)
                rw [h2] at h1
                exact h1
              obtain ⟨⟨un, vn, xd, xh⟩, hx⟩ : ∃ x, E[j] = x := ⟨_, rfl⟩
              rw [hx] at x0 x1 x2 x3 x4 x5 x6 hok hpr
              obtain ⟨huk, huR, hvR, hhv, hhh, hdd⟩ := hok
              dsimp only at x0 x1 x2 x3 x4 x5 x6 hpr huk huR hvR hhv hhh hdd
              obtain ⟨w6, hw6⟩ : ∃ W, wr.alloc (.cells #[.int .i64 (un : Int), .int .i64 (vn : Int), .int .i64 xd, .string (sb xh.aw), .string (sb xh.dst), .int .i64 xh.lo, .int .i64 xh.hi] 97) = W := ⟨_, rfl⟩
              have HW6 := Lib.hid hw6
              have B6 : Hid (Below wr.heap.size wr w6) := by rw [← hw6]; exact (Below.refl _ _).alloc (Nat.le_refl _) _
              have N6 : Hid (w6.cell? ⟨wr.heap.size, 0, none⟩ = some (.int .i64 (un : Int)) ∧ w6.cell? ⟨wr.heap.size, 1, none⟩ = some (.int .i64 (vn : Int)) ∧ w6.cell? ⟨wr.heap.size, 2, none⟩ = some (.int .i64 xd) ∧ wr.heap.size < w6.heap.size) := by rw [← hw6]; unfold Hid; simp [go_sem]
              have hvk : vn < k := by rw [← HN.out]; exact hvR
              have Q6 := Lib.hid (hlq.out.below B6.out)
              have hqu : labQ R g2 un = (R[un], g2 R[un]) := by unfold labQ; rw [getD_at huR]
              have hqv : labQ R g2 vn = (R[vn], g2 R[vn]) := by unfold labQ; rw [getD_at hvR]
              have p0 := Q6.out.c0 un huk
              have p1 := Q6.out.c1 un huk
              have p2 := Q6.out.c2 un huk
              have q0 := Q6.out.c0 vn hvk
              have q1 := Q6.out.c1 vn hvk
              have q2 := Q6.out.c2 vn hvk
              rw [hqu] at p0 p1 p2
              rw [hqv] at q0 q1 q2
              rw [getD_at huR, getD_at hvR] at hpr
              have hmu : R[un] ∈ R := List.getElem_mem huR
              have hmv : R[vn] ∈ R := List.getElem_mem hvR
              have hnv : R[vn] ∈ ends (hopsL L) R[un] := List.mem_map.2 ⟨xh, hhh, hhv.symm⟩
              have HVI : Hid (∀ i, (hi : i < R.length) → R[i] = R[vn] → i = vn) := fun i hi h => HRS.out.inj hi hvR h
              obtain ⟨ru, hru⟩ : ∃ y, R[un] = y := ⟨_, rfl⟩
              obtain ⟨rv, hrv⟩ : ∃ y, R[vn] = y := ⟨_, rfl⟩
              rw [hru] at p0 p1 p2 hpr hmu hnv hdd
              rw [hrv] at q0 q1 q2 hpr hmv hnv hdd HVI
              have HRV : Hid (∀ h : vn < R.length, R[vn] = rv) := fun _ => hrv
              have hbu := hRX.bd ru hmu
              obtain ⟨l1, l2, hlu⟩ : ∃ l1 l2, g2 ru = (l1, l2) := ⟨_, _, rfl⟩
              obtain ⟨m1, m2, hlv⟩ : ∃ l1 l2, g2 rv = (l1, l2) := ⟨_, _, rfl⟩
              rw [hlu] at p1 p2 hbu
              rw [hlv] at q1 q2
              simp only at p1 p2 q1 q2
              obtain ⟨n0, n1, n2, nlt⟩ := N6.out
              have HDD := Lib.hid hdd
              have HLU := Lib.hid hlu
              have HLV := Lib.hid hlv
              have HBU := Lib.hid hbu
              have HRX := Lib.hid hRX
              have hgl : w2.heap.size < w6.heap.size := Q6.out.lt
              clear hlq hx hw6 hjE hRX hqu hqv huR hvR hhh hhv hru hrv hlu hlv hbu hdd
              go_upto_region 30 with fail
              rw [HW6.out]
              clear HW6 x0 x1 x2 x3 x4 x5 x6
              go_cut [29, 30] from 127 to 136 (fun a29 a30 wx => ∃ q1 q2, a29 = .pointer (some ⟨q1, 0, none⟩) ∧ a30 = .pointer (some ⟨q2, 0, none⟩) ∧ Hid (LbB q1 ru l1 l2 wx) ∧ Hid (LbB q2 rv m1 m2 wx) ∧ Hid (Below w6.heap.size w6 wx) ∧ w6.heap.size ≤ q1)
              case first =>
                have S6 : w6.cell? ⟨wr.heap.size, 0, none⟩ = some (.int .i64 (un : Int)) ∧ w6.cell? ⟨wr.heap.size, 1, none⟩ = some (.int .i64 (vn : Int)) ∧ w6.cell? ⟨w2.heap.size, un * 3, none⟩ = some (.string (sb ru)) ∧ w6.cell? ⟨w2.heap.size, un * 3 + 1, none⟩ = some (.int .i64 l1) ∧ w6.cell? ⟨w2.heap.size, un * 3 + 2, none⟩ = some (.int .i64 l2) ∧ w6.cell? ⟨w2.heap.size, vn * 3, none⟩ = some (.string (sb rv)) ∧ w6.cell? ⟨w2.heap.size, vn * 3 + 1, none⟩ = some (.int .i64 m1) ∧ w6.cell? ⟨w2.heap.size, vn * 3 + 2, none⟩ = some (.int .i64 m2) := ⟨n0, n1, p0, p1, p2, q0, q1, q2⟩
                have s1 : (un : Int) < (k : Int) := by omega
                have s2 : (vn : Int) < (k : Int) := by omega
                have s3 : (0 : Int) ≤ (un : Int) := by omega
                have s4 : (0 : Int) ≤ (vn : Int) := by omega
                have BS := bel_start w6
                go_region_held3 (fun wx => wx.cell? ⟨wr.heap.size, 0, none⟩ = some (.int .i64 (un : Int)) ∧ wx.cell? ⟨wr.heap.size, 1, none⟩ = some (.int .i64 (vn : Int)) ∧ wx.cell? ⟨w2.heap.size, un * 3, none⟩ = some (.string (sb ru)) ∧ wx.cell? ⟨w2.heap.size, un * 3 + 1, none⟩ = some (.int .i64 l1) ∧ wx.cell? ⟨w2.heap.size, un * 3 + 2, none⟩ = some (.int .i64 l2) ∧ wx.cell? ⟨w2.heap.size, vn * 3, none⟩ = some (.string (sb rv)) ∧ wx.cell? ⟨w2.heap.size, vn * 3 + 1, none⟩ = some (.int .i64 m1) ∧ wx.cell? ⟨w2.heap.size, vn * 3 + 2, none⟩ = some (.int .i64 m2))
                  (first
                  | with_reducible assumption
                  | exact s8_bel (bel_rel nlt hgl (by repeat (first | exact bel_start _ | with_reducible refine bel_drew ?_ | with_reducible refine bel_alloc ?_ _ | (with_reducible refine bel_set ?_ (by simp) _)))) nlt hgl S6)
                  (fail)
                all_goals go_wp2
                all_goals go_meet
                all_goals first
                  | exact ⟨_, _, rfl, rfl, (lbB_two w6 ru rv l1 l2 m1 m2 _ _).1, (lbB_two w6 ru rv l1 l2 m1 m2 _ _).2.1, (lbB_two w6 ru rv l1 l2 m1 m2 _ _).2.2, Nat.le_refl _⟩
                  | exact ⟨_, _, rfl, rfl, (lbB_two w6 rv ru m1 m2 l1 l2 _ _).2.1, (lbB_two w6 rv ru m1 m2 l1 l2 _ _).1, (lbB_two w6 rv ru m1 m2 l1 l2 _ _).2.2, Nat.le_succ _⟩
              case rest =>
                obtain ⟨r1, r2, rfl, rfl, HU1, HV1, BC, hr1⟩ := hcut
                have hrx1 : Hid (rxs (wtF F) ((prs R E).take (j + 1)) (gf, false) = rx (wtF F) (g2, b2) (ru, rv)) := by
                  unfold Hid; rw [hpr, rxs_snoc, hst.out]
                have QC := Lib.hid (Q6.out.below BC.out)
                have FC : Hid (FrB w4.heap.size w2.heap.size w4 wc) := (hfr.out.trans (FrB.below B6.out hO)).trans (FrB.below BC.out (Nat.le_trans hO B6.out.size))
                obtain ⟨y0, y1, y2, yf0, yf1, yf2, ylt⟩ := HU1.out
                obtain ⟨z0, z1, z2, zf0, zf1, zf2, zlt⟩ := HV1.out
                have nc1 := (BC.out.cell (p := ⟨wr.heap.size, 1, none⟩) nlt).trans n1
                have nc2 := (BC.out.cell (p := ⟨wr.heap.size, 2, none⟩) nlt).trans n2
                have hxd : 0 ≤ xd ∧ xd ≤ 64800000 := by rw [HDD.out]; exact wtF_bd F ru rv
                clear n0 n1 n2 p0 p1 p2 q0 q1 q2 hpr hst
                by_cases hinf : l1 = 4611686018427387904
                · have e1 : (l1 == 4611686018427387904) = true := beq_iff_eq.2 hinf
                  have HST : Hid (rxs (wtF F) ((prs R E).take (j + 1)) (gf, false) = (g2, b2)) := by
                    unfold Hid
                    rw [hrx1.out]
                    unfold rx
                    simp only
                    rw [HLU.out, if_pos hinf]
                  clear hinf
                  go_wp2_with fail
                  go_roundw
                  case rel => exact ⟨j + 1, b2, g2, hlt, by go_num, rfl, HST, QC, FC⟩
                  case measure => simp [intOf]; omega
                · have e1 : (l1 == 4611686018427387904) = false := beq_eq_false_iff_ne.2 hinf
                  have hb2 : 0 ≤ l1 ∧ 0 ≤ l2 ∧ l2 ≤ ((c * e : Nat) : Int) + (j : Int) ∧ l1 ≤ l2 * 64800000 := by
                    rcases HBU.out with h | h
                    · exfalso; apply hinf; have : (l1, l2).1 = inf.1 := by rw [h]
                      exact this
                    · exact h
                  have hce2 : c * e ≤ 4803 * 288120 := Nat.mul_le_mul (by omega) heb
                  have hw1 : IntKind.i64.wrap (l1 + xd) = l1 + xd := IntWalk.i64_in _ (by omega)
                  have hw2 : IntKind.i64.wrap (l2 + 1) = l2 + 1 := IntWalk.i64_in _ (by omega)
                  have hrx2 : Hid (∀ (p : Bool), decide (l1 + xd < m1 ∨ l1 + xd = m1 ∧ l2 + 1 < m2) = p → rxs (wtF F) ((prs R E).take (j + 1)) (gf, false) = if p then ((fun z => if z = rv then (l1 + xd, l2 + 1) else g2 z), true) else (g2, b2)) := by
                    intro p hp
                    rw [hrx1.out]
                    unfold rx
                    simp only
                    rw [HLU.out, if_neg hinf, HLV.out]
                    have hax : ad (l1, l2) (wtF F ru rv) = (l1 + xd, l2 + 1) := by rw [HDD.out]; rfl
                    rw [hax]
                    have hlx : lx (l1 + xd, l2 + 1) (m1, m2) ↔ (l1 + xd < m1 ∨ l1 + xd = m1 ∧ l2 + 1 < m2) := Iff.rfl
                    by_cases h : l1 + xd < m1 ∨ l1 + xd = m1 ∧ l2 + 1 < m2
                    · rw [if_pos (hlx.2 h)]
                      rw [decide_eq_true h] at hp
                      rw [← hp]; rfl
                    · rw [if_neg (fun k => h (hlx.1 k))]
                      rw [decide_eq_false h] at hp
                      rw [← hp]; rfl
                  clear hinf hb2 hce2 hrx1
                  by_cases h1 : l1 + xd < m1
                  case' pos =>
                    have HP2 := Lib.hid (hrx2.out true (decide_eq_true (.inl h1)))
                    have d1 : decide (l1 + xd < m1) = true := decide_eq_true h1
                    clear hrx2
                    go_upto_region 33 with fail
                  case' neg =>
                    have d1 : decide (l1 + xd < m1) = false := decide_eq_false h1
                    by_cases h2 : l1 + xd = m1
                    case' pos =>
                      have d2 : (l1 + xd == m1) = true := beq_iff_eq.2 h2
                      by_cases h3 : l2 + 1 < m2
                      case' pos =>
                        have HP2 := Lib.hid (hrx2.out true (decide_eq_true (.inr ⟨h2, h3⟩)))
                        have d3 : decide (l2 + 1 < m2) = true := decide_eq_true h3
                        clear hrx2 h2
                        go_upto_region 33 with fail
                      case' neg =>
                        have HP2 := Lib.hid (hrx2.out false (decide_eq_false (fun h => by rcases h with h | h; exact h1 h; exact h3 h.2)))
                        have d3 : decide (l2 + 1 < m2) = false := decide_eq_false h3
                        clear hrx2 h2
                        go_wp2_with fail
                        go_roundw
                        case rel => exact ⟨j + 1, b2, g2, hlt, by go_num, rfl, HP2, QC, FC⟩
                        case measure => simp [intOf]; omega
                    case' neg =>
                      have HP2 := Lib.hid (hrx2.out false (decide_eq_false (fun h => by rcases h with h | h; exact h1 h; exact h2 h.1)))
                      have d2 : (l1 + xd == m1) = false := beq_eq_false_iff_ne.2 h2
                      clear hrx2
                      go_wp2_with fail
                      go_roundw
                      case rel => exact ⟨j + 1, b2, g2, hlt, by go_num, rfl, HP2, QC, FC⟩
                      case measure => simp [intOf]; omega
                  all_goals
                    have c1' := QC.out.c1 vn hvk
                    have c2' := QC.out.c2 vn hvk
                    have cf1 := QC.out.fz (vn * 3 + 1)
                    have cf2 := QC.out.fz (vn * 3 + 2)
                    have s2 : (vn : Int) < (k : Int) := by omega
                    have s4 : (0 : Int) ≤ (vn : Int) := by omega
                    have ng1 : w2.heap.size ≠ wr.heap.size := by have := S3.out; have := F4.out.size; omega
                    have ng2 : w2.heap.size ≠ r1 := by omega
                    have QN : Hid (LbQ w2.heap.size k (labQ R (fun z => if z = rv then (l1 + xd, l2 + 1) else g2 z)) ((wc.setCell ⟨w2.heap.size, vn * 3 + 1, none⟩ (.int .i64 (l1 + xd))).setCell ⟨w2.heap.size, vn * 3 + 2, none⟩ (.int .i64 (l2 + 1)))) := by
                      refine (QC.out.put2 hvk (l1 + xd) (l2 + 1)).congr fun i hi => ?_
                      have hiR : i < R.length := by rw [HN.out]; exact hi
                      unfold labQ
                      rw [getD_at hiR]
                      by_cases e : i = vn
                      · subst e
                        rw [if_pos rfl, getD_at hiR]
                        show (R[i], (if R[i] = rv then (l1 + xd, l2 + 1) else g2 R[i])) = _
                        rw [if_pos (HRV.out hiR)]
                      · rw [if_neg e]
                        show (R[i], (if R[i] = rv then (l1 + xd, l2 + 1) else g2 R[i])) = _
                        rw [if_neg (fun h => e (HVI.out i hiR h))]
                    have FN : Hid (FrB w4.heap.size w2.heap.size w4 ((wc.setCell ⟨w2.heap.size, vn * 3 + 1, none⟩ (.int .i64 (l1 + xd))).setCell ⟨w2.heap.size, vn * 3 + 2, none⟩ (.int .i64 (l2 + 1)))) := (FC.out.set _ _).set _ _
                    have T4 : wc.cell? ⟨wr.heap.size, 1, none⟩ = some (.int .i64 (vn : Int)) ∧ wc.cell? ⟨wr.heap.size, 2, none⟩ = some (.int .i64 xd) ∧ wc.cell? ⟨r1, 1, none⟩ = some (.int .i64 l1) ∧ wc.cell? ⟨r1, 2, none⟩ = some (.int .i64 l2) := ⟨nc1, nc2, y1, y2⟩
                    go_region_held3 (fun wx => wx.cell? ⟨wr.heap.size, 1, none⟩ = some (.int .i64 (vn : Int)) ∧ wx.cell? ⟨wr.heap.size, 2, none⟩ = some (.int .i64 xd) ∧ wx.cell? ⟨r1, 1, none⟩ = some (.int .i64 l1) ∧ wx.cell? ⟨r1, 2, none⟩ = some (.int .i64 l2))
                      (first
                      | with_reducible assumption
                      | exact T4
                      | exact s4_drew (s4_keep ng1 ng2 T4)
                      | exact s4_keep ng1 ng2 T4
                      | exact s4_drew (s4_keep ng1 ng2 (s4_drew (s4_keep ng1 ng2 T4)))
                      | exact s4_drew (s4_keep ng1 ng2 (s4_keep ng1 ng2 T4)))
                      (fail)
                    all_goals
                      go_wp2
                      go_roundw
                      case rel => exact ⟨j + 1, true, _, hlt, by go_num, rfl, HP2, by first | exact QN | exact QN.out.drew', by first | exact FN | exact FN.out.drew'⟩
                      case measure => simp [intOf]; omega
            · have hje : j = e := by omega
              subst hje
              have HALLP : (prs R E).take j = prs R E := List.take_of_length_le (by unfold prs; rw [List.length_map, HEE.out]; exact Nat.le_refl _)
              have hst2 := hst.out
              rw [HALLP] at hst2
              have RND := Rlx.round HTRI.out HSML.out hrx.out R (fun v => Iff.rfl) (prs R E) HPO.out HPA.out
              have RXN := (Rlx.many HTRI.out HSML.out hrx.out false (prs R E) HPO.out).1
              rw [hst2] at RND RXN
              simp only at RND RXN
              have hpl : (prs R E).length = j := by unfold prs; rw [List.length_map, HEE.out]
              rw [hpl] at RXN
              have RXN2 : Hid (Rlx s (fun v => v ∈ R) f 64800000 (((c + 1) * j : Nat) : Int) g2) := by
                have e : (((c + 1) * j : Nat) : Int) = ((c * j : Nat) : Int) + (j : Int) := by rw [Nat.add_mul, Nat.one_mul]; omega
                unfold Hid; rw [e]; exact RXN
              have hkey : 2 * off R f g2 + b2.toNat + 1 ≤ mm := by
                have h1 := hmm.out
                have h2 : true.toNat = 1 := rfl
                cases b2 with
                | false =>
                  obtain ⟨h3, _⟩ := RND.1 rfl
                  have h4 : false.toNat = 0 := rfl
                  rw [h3]; omega
                | true =>
                  have h3 := RND.2 rfl
                  omega
              have DN : Hid (b2 = false → ∀ v ∈ R, g2 v = f v) := fun h v hv => by
                obtain ⟨h3, h4⟩ := RND.1 h
                rw [h3]; exact h4 v hv
              clear HALLP hst2 RND RXN hpl hst hmm hdone hrx
              obtain ⟨mq, hmq⟩ : ∃ x, 2 * off R f g2 + b2.toNat = x := ⟨_, rfl⟩
              have HMQ : Hid (mq = 2 * off R f g2 + b2.toNat) := hmq.symm
              rw [hmq] at hkey
              clear hmq
              go_wp2
              go_roundg mq
              case measure => omega
              case rel => exact ⟨b2, g2, c + 1, mq, rfl, hlq, RXN2, DN, HMQ, by omega, Nat.le_refl _, hfr⟩
        case false =>
          have QF : Hid (LbQ w2.heap.size k (labQ R f) wr) := hlq.out.congr fun i hi => by
            have hiR : i < R.length := by rw [HN.out]; exact hi
            unfold labQ
            rw [getD_at hiR, hdone.out rfl _ (List.getElem_mem hiR)]
          clear hlq hdone hrx hmm RX4 HPO HPA Q4
          obtain ⟨w5, rfl⟩ : ∃ w5, w5 = wr := ⟨_, rfl⟩
          have hs45 : w4.heap.size ≤ w5.heap.size := hfr.out.size
          have HS : Hid (w2.heap.size + 1 ≤ w4.heap.size) := by have := S3.out; have := F4.out.size; unfold Hid; omega
          have ER5 : Hid (EdsR w5 (.slice Ae e ce) E) := by
            have h1 := Rd.of_own (own_frB O4.out hfr.out (by have := S3.out; omega) (Nat.le_refl _))
            unfold Hid EdsR
            rw [HEE.out]; exact h1
          have B25 : Hid (Below w2.heap.size w2 w5) := B23.out.trans ((F4.out.to_below (by have := S3.out; omega) (Nat.le_refl _)).trans (hfr.out.to_below (by have := HS.out; omega) (Nat.le_refl _)))
          have B5 := Lib.hid (Below.then_ B2.out B25.out)
          have Z5 := Lib.hid (Z2.out.below B25.out)
          have htb := HLE.out.bd t (by rw [HR.out]; exact HTR.out)
          obtain ⟨hktl, hkte⟩ := HKT.out
          have hktk : kt < k := by rw [← HN.out]; exact hktl
          have hgt : R.getD kt [] = t := by rw [getD_at hktl, hkte]
          clear hktl hkte hs45
          go_wp2_with fail
          go_loopg [31, 32] 2401 (fun g wv av wr => ∃ (x : Nat) (hs : List Hp) (n2 : Nat), av = .int .i64 (x : Int) ∧ x < k ∧ Hid (wayTo (hopsL L) (wtF F) f R (R.getD x []) ++ hs = wayTo (hopsL L) (wtF F) f R t) ∧ Hid ((f (R.getD x [])).2 = (n2 : Int)) ∧ n2 ≤ g ∧ hs.length + n2 ≤ 2401 ∧ Hid (WvR w5.heap.size wr wv hs) ∧ Hid (Below w5.heap.size w5 wr))
          case atStart => exact ⟨kt, [], (f t).2.toNat, rfl, hktk, Lib.hid (by rw [hgt, List.append_nil]), Lib.hid (by rw [hgt]; omega), by omega, by simp; omega, Lib.hid (.inl ⟨rfl, rfl⟩), Lib.hid (Below.refl _ _)⟩
          case round =>
            clear htb hgt
            obtain ⟨x, hs, n2, rfl, hxk, hway, hn2, hng, hlen, hwv, hbr⟩ := hrel
            have hxR : x < R.length := by rw [HN.out]; exact hxk
            by_cases hxs : x = ks
            · subst hxs
              have e1 : ((x : Int) == (x : Int)) = true := by simp
              have e2 : ((x : Int) != (x : Int)) = false := by simp
              have hgs : R.getD x [] = s := by
                obtain ⟨h1, h2⟩ := HKS.out
                rw [getD_at h1, h2]
              have hwy := hway.out
              rw [hgs, way_base HTRI.out, List.nil_append] at hwy
              have QR := Lib.hid (QF.out.below hbr.out)
              have hlt1 := QR.out.c1 kt hktk
              have hft : (labQ R f kt).2.1 = (f t).1 := by
                obtain ⟨h1, h2⟩ := HKT.out
                unfold labQ
                rw [getD_at h1, h2]
              rw [hft] at hlt1
              obtain ⟨z0, z1, z2, zf0, zf1, zf2, zlt⟩ := Z5.out.below hbr.out
              have hgl : w.heap.size < w2.heap.size := Z2.out.lt
              have BE : Hid (Below w.heap.size w wr) := B5.out.trans (hbr.out.mono B5.out.size)
              have hw25 : w2.heap.size ≤ w5.heap.size := B25.out.size
              have HEND : Hid (∃ A c, u31 = .slice A hs.length c ∧ HpsR wr u31 hs ∧ u31.ownBlock ≠ some w.heap.size) := by
                rcases hwv.out with ⟨h1, h2⟩ | ⟨g, c, h1, h2, h3, h4⟩
                · subst h1; subst h2; exact ⟨none, 0, rfl, HpsR.nil _, by simp [Value.ownBlock]⟩
                · refine ⟨_, c, h1, h4, ?_⟩
                  rw [h1]
                  intro h
                  have : g = w.heap.size := by simpa [Value.ownBlock] using h
                  omega
              obtain ⟨Aw, cw, hu, hhp, hob⟩ := HEND.out
              obtain ⟨nh, hnh⟩ : ∃ y, hs.length = y := ⟨_, rfl⟩
              rw [hnh] at hu
              subst hu
              have HHP := Lib.hid hhp
              have HOB := Lib.hid hob
              have HWY := Lib.hid hwy
              have hs24 : k ≤ maxLen := by unfold maxLen; omega
              clear hway hwy hft hwv HEND hhp hob hnh hn2 hgs
              go_wp2
              refine bodyPost_ret (v := .tuple #[.agg #[.slice Aw nh cw, .int .i64 (f t).1, .slice (some ⟨w2.heap.size, 0, none⟩) k k], .int .i64 0]) (by simp [results, Tryz.results11, go_sem, z0, z1, z2]; try rfl) rfl ?_
              refine ⟨_, _, _, _, rfl, ((BE.out.setCell (Nat.le_refl _) _).setCell (Nat.le_refl _) _).setCell (Nat.le_refl _) _, .inr ⟨rfl, HOP.out, by rw [HR.out]; exact HTR.out, HLE.out, rfl, ?_, ?_⟩⟩
              · rw [HR.out, ← HWY.out]
                exact ((HHP.out.setne HOB.out _ _).setne HOB.out _ _).setne HOB.out _ _
              · rw [HR.out]
                refine LbQ.lbsR (((QR.out.setOther ?_ _).setOther ?_ _).setOther ?_ _) HN.out hs24 <;> (show w.heap.size ≠ w2.heap.size; omega)
            · have e1 : ((x : Int) == (ks : Int)) = false := beq_eq_false_iff_ne.2 (by omega)
              have e2 : ((x : Int) != (ks : Int)) = true := bne_iff_ne.2 (by omega)
              obtain ⟨wo, rfl⟩ : ∃ W, W = wr := ⟨_, rfl⟩
              obtain ⟨vo, rfl⟩ : ∃ V, V = u31 := ⟨_, rfl⟩
              go_wp2_with fail
              go_loopw [31, 32, 191] (fun wv2 av2 jv wr => ∃ j : Nat, j ≤ e ∧ jv = .int .i64 j ∧ wv2 = vo ∧ av2 = .int .i64 (x : Int) ∧ Hid (∀ y ∈ E.take j, goodE f R x y = false) ∧ Hid (Below wo.heap.size wo wr)) (fun _ _ jv _ => e - (intOf jv).toNat)
              case atStart => exact ⟨0, Nat.zero_le _, by first | rfl | go_num, rfl, rfl, Lib.hid (fun y hy => by simp at hy), Lib.hid (Below.refl _ _)⟩
              case round =>
                obtain ⟨j, hj, rfl, hwv2, rfl, hno, hbq⟩ := hrel
                subst hwv2
                by_cases hlt : j < e
                · have hjE : j < E.length := by rw [HEE.out]; exact hlt
                  have BW5 : Hid (Below w5.heap.size w5 wr) := hbr.out.trans (hbq.out.mono hbr.out.size)
                  obtain ⟨g5, o5, c5, hA, hg5, x0, x1, x2, x3, x4, x5, x6⟩ := (show EdsR wr (.slice Ae e ce) E from Rd.below ER5.out BW5.out).at_ hjE
                  rw [HEE.out] at hA
                  simp only [Value.slice.injEq, true_and] at hA
                  obtain ⟨rfl, rfl⟩ := hA
                  have hok := HEO.out j hjE
                  have HTE : Hid (E.take (j + 1) = E.take j ++ [E[j]]) := by unfold Hid; rw [List.take_add_one, List.getElem?_eq_getElem hjE]; rfl
                  obtain ⟨⟨un, vn, xd, xh⟩, hx⟩ : ∃ y, E[j] = y := ⟨_, rfl⟩
                  rw [hx] at x0 x1 x2 x3 x4 x5 x6 hok HTE
                  obtain ⟨huk, huR, hvR, hhv, hhh, hdd⟩ := hok
                  dsimp only at x0 x1 x2 x3 x4 x5 x6 huk huR hvR hhv hhh hdd
                  have hvk : vn < k := by rw [← HN.out]; exact hvR
                  obtain ⟨w6, hw6⟩ : ∃ W, wr.alloc (.cells #[.int .i64 (un : Int), .int .i64 (vn : Int), .int .i64 xd, .string (sb xh.aw), .string (sb xh.dst), .int .i64 xh.lo, .int .i64 xh.hi] 97) = W := ⟨_, rfl⟩
                  have HW6 := Lib.hid hw6
                  have B6 : Hid (Below wr.heap.size wr w6) := by rw [← hw6]; exact (Below.refl _ _).alloc (Nat.le_refl _) _
                  have N6 : Hid (w6.cell? ⟨wr.heap.size, 0, none⟩ = some (.int .i64 (un : Int)) ∧ w6.cell? ⟨wr.heap.size, 1, none⟩ = some (.int .i64 (vn : Int)) ∧ w6.cell? ⟨wr.heap.size, 2, none⟩ = some (.int .i64 xd) ∧ w6.cell? ⟨wr.heap.size, 3, none⟩ = some (.string (sb xh.aw)) ∧ w6.cell? ⟨wr.heap.size, 4, none⟩ = some (.string (sb xh.dst)) ∧ w6.cell? ⟨wr.heap.size, 5, none⟩ = some (.int .i64 xh.lo) ∧ w6.cell? ⟨wr.heap.size, 6, none⟩ = some (.int .i64 xh.hi) ∧ wr.heap.size < w6.heap.size) := by rw [← hw6]; unfold Hid; simp [go_sem]
                  have Q6 := Lib.hid (QF.out.below (Below.then_ BW5.out B6.out))
                  have hqu : labQ R f un = (R[un], f R[un]) := by unfold labQ; rw [getD_at huR]
                  have hqv : labQ R f vn = (R[vn], f R[vn]) := by unfold labQ; rw [getD_at hvR]
                  have p0 := Q6.out.c0 un huk
                  have p1 := Q6.out.c1 un huk
                  have p2 := Q6.out.c2 un huk
                  have q0 := Q6.out.c0 vn hvk
                  have q1 := Q6.out.c1 vn hvk
                  have q2 := Q6.out.c2 vn hvk
                  rw [hqu] at p0 p1 p2
                  rw [hqv] at q0 q1 q2
                  have hbu := HLE.out.bd R[un] (by rw [HR.out]; exact List.getElem_mem huR)
                  have hxd : 0 ≤ xd ∧ xd ≤ 64800000 := by rw [hdd]; exact wtF_bd F _ _
                  have hgd : goodE f R x ⟨un, vn, xd, xh⟩ = (decide (vn = x) && (decide ((f R[un]).1 + xd = (f R[vn]).1) && decide ((f R[un]).2 + 1 = (f R[vn]).2))) := by
                    unfold goodE
                    simp only
                    rw [getD_at huR, getD_at hvR]
                  have hgu : f (R.getD un []) = f R[un] := by rw [getD_at huR]
                  obtain ⟨l1, l2, hlu⟩ : ∃ l1 l2, f R[un] = (l1, l2) := ⟨_, _, rfl⟩
                  obtain ⟨m1, m2, hlv⟩ : ∃ l1 l2, f R[vn] = (l1, l2) := ⟨_, _, rfl⟩
                  obtain ⟨ru, hru⟩ : ∃ y, R[un] = y := ⟨_, rfl⟩
                  obtain ⟨rv, hrv⟩ : ∃ y, R[vn] = y := ⟨_, rfl⟩
                  rw [hlu] at p1 p2 hbu hgd hgu
                  rw [hlv] at q1 q2 hgd
                  rw [hru] at p0
                  rw [hrv] at q0
                  simp only at p1 p2 q1 q2 hbu hgd
                  have WS : Hid (goodE f R x E[j] = true → wayTo (hopsL L) (wtF F) f R (R.getD x []) = wayTo (hopsL L) (wtF F) f R (R.getD un []) ++ [xh] ∧ (f (R.getD x [])).2 = (f (R.getD un [])).2 + 1) := by
                    intro hg
                    have key : ∀ E', edsN (hopsL L) (wtF F) R R.length = E' → ∀ hj : j < E'.length, (∀ e ∈ E'.take j, goodE f R x e = false) → goodE f R x E'[j] = true → wayTo (hopsL L) (wtF F) f R (R.getD x []) = wayTo (hopsL L) (wtF F) f R (R.getD E'[j].u []) ++ [E'[j].h] ∧ (f (R.getD x [])).2 = (f (R.getD E'[j].u [])).2 + 1 := by
                      intro E' hE' hj2 hno2 hg2
                      subst hE'
                      have hpx : plc (R.getD x []) R = x := by rw [getD_at hxR]; exact HRS.out.plc_at hxR
                      have hmx : R.getD x [] ∈ R := by rw [getD_at hxR]; exact List.getElem_mem hxR
                      have h := way_step (v := R.getD x []) HRS.out HTRI.out hmx hj2 (by rw [hpx]; exact hno2) (by rw [hpx]; exact hg2) rfl
                      exact ⟨h.1, h.2.1⟩
                    have h := key E HEN.out hjE hno.out hg
                    rw [hx] at h
                    exact h
                  rw [hx] at WS
                  have HGD := Lib.hid hgd
                  have HGU := Lib.hid hgu
                  obtain ⟨n0, n1, n2', n3, n4, n5, n6, nlt⟩ := N6.out
                  have hgl : w2.heap.size < w6.heap.size := Q6.out.lt
                  have hw1 : IntKind.i64.wrap (l1 + xd) = l1 + xd := IntWalk.i64_in _ (by omega)
                  have hw2 : IntKind.i64.wrap (l2 + 1) = l2 + 1 := IntWalk.i64_in _ (by omega)
                  have HW1 := Lib.hid hw1
                  have HW2 := Lib.hid hw2
                  have HXD := Lib.hid hxd
                  have HBU := Lib.hid hbu
                  clear hx hw6 hjE hqu hqv huR hvR hhh hhv hru hrv hlu hlv hbu hdd hgd hgu hw1 hw2 hxd
                  go_upto_region 42 with fail
                  rw [HW6.out]
                  clear HW6 x0 x1 x2 x3 x4 x5 x6
                  go_cut [35, 36] from 195 to 204 (fun a29 a30 wx => ∃ q1 q2, a29 = .pointer (some ⟨q1, 0, none⟩) ∧ a30 = .pointer (some ⟨q2, 0, none⟩) ∧ Hid (LbB q1 ru l1 l2 wx) ∧ Hid (LbB q2 rv m1 m2 wx) ∧ Hid (Below w6.heap.size w6 wx) ∧ w6.heap.size ≤ q1)
                  case first =>
                    have S6 : w6.cell? ⟨wr.heap.size, 0, none⟩ = some (.int .i64 (un : Int)) ∧ w6.cell? ⟨wr.heap.size, 1, none⟩ = some (.int .i64 (vn : Int)) ∧ w6.cell? ⟨w2.heap.size, un * 3, none⟩ = some (.string (sb ru)) ∧ w6.cell? ⟨w2.heap.size, un * 3 + 1, none⟩ = some (.int .i64 l1) ∧ w6.cell? ⟨w2.heap.size, un * 3 + 2, none⟩ = some (.int .i64 l2) ∧ w6.cell? ⟨w2.heap.size, vn * 3, none⟩ = some (.string (sb rv)) ∧ w6.cell? ⟨w2.heap.size, vn * 3 + 1, none⟩ = some (.int .i64 m1) ∧ w6.cell? ⟨w2.heap.size, vn * 3 + 2, none⟩ = some (.int .i64 m2) := ⟨n0, n1, p0, p1, p2, q0, q1, q2⟩
                    have s1 : (un : Int) < (k : Int) := by omega
                    have s2 : (vn : Int) < (k : Int) := by omega
                    have s3 : (0 : Int) ≤ (un : Int) := by omega
                    have s4 : (0 : Int) ≤ (vn : Int) := by omega
                    go_region_held3 (fun wx => wx.cell? ⟨wr.heap.size, 0, none⟩ = some (.int .i64 (un : Int)) ∧ wx.cell? ⟨wr.heap.size, 1, none⟩ = some (.int .i64 (vn : Int)) ∧ wx.cell? ⟨w2.heap.size, un * 3, none⟩ = some (.string (sb ru)) ∧ wx.cell? ⟨w2.heap.size, un * 3 + 1, none⟩ = some (.int .i64 l1) ∧ wx.cell? ⟨w2.heap.size, un * 3 + 2, none⟩ = some (.int .i64 l2) ∧ wx.cell? ⟨w2.heap.size, vn * 3, none⟩ = some (.string (sb rv)) ∧ wx.cell? ⟨w2.heap.size, vn * 3 + 1, none⟩ = some (.int .i64 m1) ∧ wx.cell? ⟨w2.heap.size, vn * 3 + 2, none⟩ = some (.int .i64 m2))
                      (first
                      | with_reducible assumption
                      | exact s8_bel (bel_rel nlt hgl (by repeat (first | exact bel_start _ | with_reducible refine bel_drew ?_ | with_reducible refine bel_alloc ?_ _ | (with_reducible refine bel_set ?_ (by simp) _)))) nlt hgl S6)
                      (fail)
                    all_goals go_wp2
                    all_goals go_meet
                    all_goals first
                      | exact ⟨_, _, rfl, rfl, (lbB_two w6 ru rv l1 l2 m1 m2 _ _).1, (lbB_two w6 ru rv l1 l2 m1 m2 _ _).2.1, (lbB_two w6 ru rv l1 l2 m1 m2 _ _).2.2, Nat.le_refl _⟩
                      | exact ⟨_, _, rfl, rfl, (lbB_two w6 rv ru m1 m2 l1 l2 _ _).2.1, (lbB_two w6 rv ru m1 m2 l1 l2 _ _).1, (lbB_two w6 rv ru m1 m2 l1 l2 _ _).2.2, Nat.le_succ _⟩
                  case rest =>
                    obtain ⟨r1, r2, rfl, rfl, HU1, HV1, BC, hr1⟩ := hcut
                    obtain ⟨y0, y1, y2, yf0, yf1, yf2, ylt⟩ := HU1.out
                    obtain ⟨z0, z1, z2, zf0, zf1, zf2, zlt⟩ := HV1.out
                    have t0 := (BC.out.cell (p := ⟨wr.heap.size, 0, none⟩) nlt).trans n0
                    have t1 := (BC.out.cell (p := ⟨wr.heap.size, 1, none⟩) nlt).trans n1
                    have t2 := (BC.out.cell (p := ⟨wr.heap.size, 2, none⟩) nlt).trans n2'
                    have t3 := (BC.out.cell (p := ⟨wr.heap.size, 3, none⟩) nlt).trans n3
                    have t4 := (BC.out.cell (p := ⟨wr.heap.size, 4, none⟩) nlt).trans n4
                    have t5 := (BC.out.cell (p := ⟨wr.heap.size, 5, none⟩) nlt).trans n5
                    have t6 := (BC.out.cell (p := ⟨wr.heap.size, 6, none⟩) nlt).trans n6
                    have BQ : Hid (Below wo.heap.size wo wc) := hbq.out.trans ((Below.then_ B6.out BC.out).mono hbq.out.size)
                    have hclt : wr.heap.size < wc.heap.size := Nat.lt_of_lt_of_le nlt BC.out.size
                    have hw1 := HW1.out
                    have hw2 := HW2.out
                    have HBAD : Hid (goodE f R x ⟨un, vn, xd, xh⟩ = false → ∀ y ∈ E.take (j + 1), goodE f R x y = false) := fun h y hy => by
                      rw [HTE.out, List.mem_append] at hy
                      rcases hy with hy | hy
                      · exact hno.out y hy
                      · rw [List.mem_singleton] at hy; rw [hy]; exact h
                    clear n0 n1 n2' n3 n4 n5 n6 p0 p1 p2 q0 q1 q2 hno hbq HTE
                    by_cases g1 : vn = x
                    case neg =>
                      have d1 : ((vn : Int) == (x : Int)) = false := beq_eq_false_iff_ne.2 (by omega)
                      have HNB := Lib.hid (HBAD.out (by rw [HGD.out, decide_eq_false g1]; rfl))
                      clear g1
                      go_wp2_with fail
                      go_roundw
                      case rel => exact ⟨j + 1, hlt, by go_num, rfl, rfl, HNB, BQ⟩
                      case measure => simp [intOf]; omega
                    subst g1
                    have d1 : ((vn : Int) == (vn : Int)) = true := by simp
                    by_cases g2 : l1 + xd = m1
                    case neg =>
                      have d2 : (l1 + xd == m1) = false := beq_eq_false_iff_ne.2 g2
                      have HNB := Lib.hid (HBAD.out (by rw [HGD.out, decide_eq_false g2, Bool.false_and, Bool.and_false]))
                      clear g2
                      go_wp2_with fail
                      go_roundw
                      case rel => exact ⟨j + 1, hlt, by go_num, rfl, rfl, HNB, BQ⟩
                      case measure => simp [intOf]; omega
                    by_cases g3 : l2 + 1 = m2
                    case neg =>
                      have d2 : (l1 + xd == m1) = true := beq_iff_eq.2 g2
                      have d3 : (l2 + 1 == m2) = false := beq_eq_false_iff_ne.2 g3
                      have HNB := Lib.hid (HBAD.out (by rw [HGD.out, decide_eq_false g3, Bool.and_false, Bool.and_false]))
                      clear g2 g3
                      go_wp2_with fail
                      go_roundw
                      case rel => exact ⟨j + 1, hlt, by go_num, rfl, rfl, HNB, BQ⟩
                      case measure => simp [intOf]; omega
                    have d2 : (l1 + xd == m1) = true := beq_iff_eq.2 g2
                    have d3 : (l2 + 1 == m2) = true := beq_iff_eq.2 g3
                    obtain ⟨hwy1, hwy2⟩ := WS.out (by rw [HGD.out, decide_eq_true rfl, decide_eq_true g2, decide_eq_true g3]; rfl)
                    clear g2 g3
                    obtain ⟨m2', hm2'⟩ : ∃ y : Nat, (f (R.getD un [])).2 = (y : Int) := ⟨(f (R.getD un [])).2.toNat, by rw [HGU.out]; have := HBU.out; show l2 = (l2.toNat : Int); omega⟩
                    have HM2 := Lib.hid hm2'
                    have hn2b : m2' + 1 = n2 := by
                      have h1 := hn2.out
                      rw [hwy2, hm2'] at h1
                      omega
                    have HWN : Hid (wayTo (hopsL L) (wtF F) f R (R.getD un []) ++ (xh :: hs) = wayTo (hopsL L) (wtF F) f R t) := by
                      have h1 := hway.out
                      rw [hwy1, List.append_assoc] at h1
                      exact h1
                    obtain ⟨w8, hw8⟩ : ∃ W, wc.alloc (.cells #[.string (sb xh.aw), .string (sb xh.dst), .int .i64 xh.lo, .int .i64 xh.hi] 48) = W := ⟨_, rfl⟩
                    have HW8 := Lib.hid hw8
                    have B8 : Hid (Below wc.heap.size wc w8) := by rw [← hw8]; exact (Below.refl _ _).alloc (Nat.le_refl _) _
                    have BO8 : Hid (Below wo.heap.size wo w8) := Below.then_ BQ.out B8.out
                    have B58 : Hid (Below w5.heap.size w5 w8) := Below.then_ hbr.out BO8.out
                    have hs58 : w5.heap.size ≤ wc.heap.size := (Below.then_ hbr.out BQ.out).size
                    have own8 : w8.ownsRow w5.heap.size 48 4 (.slice (some ⟨wc.heap.size, 0, none⟩) 1 1) 1 (hpc xh) := by rw [← hw8]; exact World.ownsRow_lit wc #[.string (sb xh.aw), .string (sb xh.dst), .int .i64 xh.lo, .int .i64 xh.hi] 1 hs58 (by unfold maxLen; omega) rfl
                    have t08 := (B8.out.cell (p := ⟨wr.heap.size, 0, none⟩) hclt).trans t0
                    have hlt8 : wr.heap.size < w8.heap.size := Nat.lt_of_lt_of_le hclt B8.out.size
                    have HWV := hwv.out
                    clear hw8 hm2' hwy1 hwy2 hway hn2 HBAD
                    rcases HWV with ⟨h1, h2⟩ | ⟨gw, cw, h1, h2, h3, h4⟩
                    · subst h1; subst h2
                      have WV : Hid (WvR w5.heap.size w8 (.slice (some ⟨wc.heap.size, 0, none⟩) 1 1) [xh]) := .inr ⟨_, _, rfl, by simp, hs58, hpsR_own (l := [xh]) own8⟩
                      go_wp2_with (at_builtin; rw [HW8.out]; refine wpList_append_own_none rfl _ _ 24 rfl w5.heap.size 48 ih 4 Tryz.underlying24 hih _ _ _ rfl own8 rfl ?_)
                      clear own8
                      go_wp2
                      go_roundg m2'
                      case measure => omega
                      case rel => exact ⟨un, [xh], m2', rfl, huk, HWN, HM2, Nat.le_refl _, by simp at hlen ⊢; omega, WV, B58⟩
                    · obtain ⟨nh, hnh⟩ : ∃ y, hs.length = y := ⟨_, rfl⟩
                      have h5 := (h4.below BO8.out).1
                      rw [hnh] at h1 h2 hlen h5
                      subst h1
                      obtain ⟨hl5, A5, c5, hv5, hc5, hm5, hr5⟩ := h5
                      simp only [Value.slice.injEq, true_and] at hv5
                      obtain ⟨rfl, rfl⟩ := hv5
                      obtain ⟨gz, oz, hgz, _, hx5⟩ := hr5 h2
                      simp only [Option.some.injEq, Addr.mk.injEq, and_true] at hgz
                      obtain ⟨rfl, rfl⟩ := hgz
                      have hnews : ∀ i u, (hpcells hs)[i]? = some u → w8.cell? ((⟨gw, 0, none⟩ : Addr).add i) = some u := fun i u hu => by
                        have e : (⟨gw, 0, none⟩ : Addr).add i = ⟨gw, i, none⟩ := by by_cases h0 : i = 0 <;> simp [Addr.add, h0]
                        have := hx5 i u hu
                        rw [Nat.zero_add] at this
                        rw [e]; exact this
                      have hone : ∀ u ∈ hpcells hs, u.oneCell' = true := hp_one hs
                      have HNH := Lib.hid hnh
                      have hn9 : nh + 1 ≤ 2401 := by omega
                      have HB8 : Hid (w5.heap.size ≤ w8.heap.size) := B58.out.size
                      clear hnh h4 hr5 hx5 hc5 hm5
                      go_wp2_with (at_builtin; rw [HW8.out]; refine wpList_append_lies _ rfl _ _ 24 rfl w5.heap.size 48 ih (.agg #[.string ⟨#[]⟩, .string ⟨#[]⟩, .int .i64 0, .int .i64 0]) 4 48 Tryz.underlying24 hih hh0 hh1 hh2 rfl (by decide) _ 1 (hpc xh) rfl own8 ⟨gw, 0, none⟩ nh _ (hpcells hs) rfl hl5 hnews hone h2 (by unfold maxLen; omega) (by omega) HB8.out _ rfl ?_)
                      intro gg cap w9 hown9 hgrow _ hgl9
                      obtain ⟨nz, hnz⟩ : ∃ y, 1 + nh = y := ⟨_, rfl⟩
                      rw [hnz] at hown9 ⊢
                      have hlz : (xh :: hs).length = nz := by rw [List.length_cons, HNH.out, ← hnz, Nat.add_comm]
                      have hbg : w5.heap.size ≤ gg := by
                        obtain ⟨g', c', hv', hb', _⟩ := hown9.form (by omega)
                        simp only [Value.slice.injEq, Option.some.injEq, Addr.mk.injEq, true_and, and_true] at hv'
                        obtain ⟨rfl, rfl⟩ := hv'
                        exact hb'
                      have WV : Hid (WvR w5.heap.size w9 (.slice (some ⟨gg, 0, none⟩) nz cap) (xh :: hs)) := .inr ⟨gg, cap, by rw [hlz], by rw [hlz]; omega, hbg, hpsR_own (l := xh :: hs) (by rw [hlz]; exact hown9)⟩
                      have hrow : ∀ k, (Value.slice (some ⟨wc.heap.size, 0, none⟩) 1 1).ownBlock = some k → wc.heap.size = k := fun k hk => by simpa [Value.ownBlock] using hk
                      have B59 : Hid (Below w5.heap.size w5 w9) := B58.out.grown hgrow B58.out.size (fun k hk => by have e := hrow k hk; omega)
                      have t09 := (hgrow.cell_far ⟨wr.heap.size, 0, none⟩ hlt8 (fun h => by have e : wc.heap.size = wr.heap.size := hrow _ h.symm; omega)).trans t08
                      have hlen9 : Hid ((xh :: hs).length + m2' ≤ 2401) := by unfold Hid; rw [hlz]; omega
                      clear own8 hown9 hgrow hgl9 hnews hone hl5 t08 hnz hlz hrow
                      go_wp2
                      go_roundg m2'
                      case measure => omega
                      case rel => exact ⟨un, xh :: hs, m2', rfl, huk, HWN, HM2, Nat.le_refl _, hlen9.out, WV, B59⟩
                · exfalso
                  have hje : j = e := by omega
                  have hpx : plc (R.getD x []) R = x := by rw [getD_at hxR]; exact HRS.out.plc_at hxR
                  have hmx : R.getD x [] ∈ R := by rw [getD_at hxR]; exact List.getElem_mem hxR
                  have hne : R.getD x [] ≠ s := by
                    obtain ⟨h1, h2⟩ := HKS.out
                    rw [getD_at hxR]
                    intro h
                    exact hxs (HRS.out.inj hxR h1 (by rw [h, h2]))
                  refine way_more HRS.out HTRI.out hmx hne ?_
                  rw [HEN.out, hpx]
                  intro y hy
                  refine hno.out y ?_
                  rw [List.take_of_length_le (by rw [HEE.out, hje]; exact Nat.le_refl _)]
                  exact hy
end Go.Proofs.YtgnnblkpjankgaaGreatDoor
