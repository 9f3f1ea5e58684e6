/-
  Arguments that are databases, opened to cells; the sizes of their fixes' strings by the row's own reach.
-/
import Derived.Test.YtecklnobgfahfaaGreatDoorDbO
import Derived.Test.YtecklnobgfahfaaGreatDoorCkP
import Derived.Test.YtecklnobgfahfaaGreatDoorMG19
import Derived.SizedLaws
namespace Go.Proofs.YtecklnobgfahfaaGreatDoor
open Go.ChangeShapes Go.WideShapes Go.Deep Go.RowKit
set_option linter.unusedVariables false
set_option linter.unusedSimpArgs false
section
variable {H : Type} {enc : TypeId × Value → H} {w : World} {base : Nat} {held : Bool}
/-- a datum of fixes -/
def FixDat (l : List Fx) (d : DataW H) : Prop := l = [] ∨ ∃ es sp : List (DataW H), d = .slice es sp ∧ es.length = l.length ∧ ∀ i (h : i < l.length), ∃ r : List (DataW H), es[i]? = some (.agg (.lit (.string l[i].id) :: .lit (.string l[i].rg) :: r))
set_option maxRecDepth 100000 in
theorem open_fixS {fuel : Nat} {cs : List Value} {x : DataW H × List MemPlace} (h : DataW.trod enc Tryz.prog w base (fun _ => true) held fuel 68 cs = some x) :
    ∃ (f : Fx) (r : List (DataW H)), cs = fxc f ∧ FxOk f ∧ x.1 = .agg (.lit (.string f.id) :: .lit (.string f.rg) :: r) := by
  obtain ⟨f, rfl, hok⟩ := open_fixD h
  obtain ⟨ys, n, _, hx, hl, hyl, hf⟩ := DataW.trod_struct Tryz.underlying68 h
  have h0 : DataW.trod enc Tryz.prog w base (fun _ => true) held n 9 (((fxc f).drop 0).take (Tryz.prog.cellsOf 9)) = ys[0]? := hf 0 _ rfl
  have h1 : DataW.trod enc Tryz.prog w base (fun _ => true) held n 9 (((fxc f).drop 1).take (Tryz.prog.cellsOf 9)) = ys[1]? := hf 1 _ rfl
  rw [db_cString] at h0 h1
  match ys, hyl with
  | [z0, z1, z2, z3, z4, z5], _ =>
    obtain ⟨s, e0, hz0, _⟩ := DataW.trod_string Tryz.underlying9 (show DataW.trod enc Tryz.prog w base (fun _ => true) held n 9 [.string (sb f.id)] = some z0 from h0)
    obtain ⟨t, e1, hz1, _⟩ := DataW.trod_string Tryz.underlying9 (show DataW.trod enc Tryz.prog w base (fun _ => true) held n 9 [.string (sb f.rg)] = some z1 from h1)
    obtain rfl : sb f.id = s := by simpa using e0
    obtain rfl : sb f.rg = t := by simpa using e1
    refine ⟨f, [z2.1, z3.1, z4.1, z5.1], rfl, hok, ?_⟩
    rw [hx, hz0, hz1]
    show DataW.agg [.lit (.string (bl (sb f.id))), .lit (.string (bl (sb f.rg))), z2.1, z3.1, z4.1, z5.1] = _
    rw [bl_sb, bl_sb]
theorem open_fixesS {fuel : Nat} {v : Value} {x : DataW H × List MemPlace} (h : DataW.trod enc Tryz.prog w base (fun _ => true) held fuel 26 [v] = some x) :
    ∃ l, FxsD w v l ∧ FixDat l x.1 := by
  rcases open_slice Tryz.underlying26 h with ⟨hcs, _⟩ | ⟨a, len, cap, m, n, D, Pl, hcs, hb, hl, hm, hmm, hx, hi⟩
  · obtain rfl : v = .slice none 0 0 := by simpa using hcs
    exact ⟨[], ⟨Rd.nil w 7, by simp⟩, .inl rfl⟩
  · obtain rfl : v = .slice (some a) len cap := by simpa using hcs
    obtain rfl : m = cap := hmm
    obtain ⟨l, rfl, hp⟩ := list_of (P := fun i (p : Fx) => (∀ j, j < 7 → w.cell? ((a.add (i * 7)).add j) = (fxc p)[j]?) ∧ FxOk p ∧ ∃ r : List (DataW H), D i = .agg (.lit (.string p.id) :: .lit (.string p.rg) :: r)) len (fun i hil => by
      obtain ⟨cs', hc, ht'⟩ := hi i (by omega)
      rw [db_cApiFix] at hc
      obtain ⟨_, hcl, hat⟩ := World.cells?_some hc
      obtain ⟨f, r, rfl, hok, hD⟩ := open_fixS ht'
      exact ⟨f, hat, hok, r, hD⟩)
    refine ⟨l, ⟨?_, fun p hpm => ?_⟩, .inr ⟨_, _, by rw [hx], by rw [List.length_map, List.length_range], fun i hil => ?_⟩⟩
    · have h2 := rdK_new (w := w) (a := a) (cap := m) (k := 7) (l.map fxc) (by intro c hc; rw [List.mem_map] at hc; obtain ⟨p, _, rfl⟩ := hc; rfl) (by decide) (by rw [List.length_map]; exact hl) hm (fun i hi2 j hj => by
        rw [List.length_map] at hi2
        rw [List.getElem_map]
        exact (hp i hi2).1 j hj)
      rw [List.length_map] at h2
      exact h2
    · obtain ⟨i, hi2, rfl⟩ := List.getElem_of_mem hpm
      exact (hp i hi2).2.1
    · obtain ⟨_, _, r, hD⟩ := hp i hil
      exact ⟨r, by rw [List.getElem?_map, List.getElem?_range hil, ← hD]; rfl⟩
set_option maxRecDepth 100000 in
theorem open_dbS {fuel : Nat} {cs : List Value} {x : DataW H × List MemPlace} (h : DataW.trod enc Tryz.prog w base (fun _ => true) held fuel 30 cs = some x) :
    ∃ (D : DbD) (f a p : Value) (d0 d1 d2 d3 : DataW H), cs = dbC D.hd f a p ∧ DbV w f a p D ∧ x.1 = .agg [d0, d1, d2, d3] ∧ FixDat D.fx d1 := by
  obtain ⟨D, f, a, p, rfl, hv⟩ := open_db h
  obtain ⟨ys, n, _, hx, hl, hyl, hf⟩ := DataW.trod_struct Tryz.underlying30 h
  have h1 : DataW.trod enc Tryz.prog w base (fun _ => true) held n 26 (((dbC D.hd f a p).drop 6).take (Tryz.prog.cellsOf 26)) = ys[1]? := hf 1 _ rfl
  rw [db_cSlApiFix] at h1
  match ys, hyl with
  | [z0, z1, z2, z3], _ =>
    obtain ⟨l, hl2, hd⟩ := open_fixesS (show DataW.trod enc Tryz.prog w base (fun _ => true) held n 26 [f] = some z1 from h1)
    exact ⟨{ D with fx := l }, f, a, p, z0.1, z1.1, z2.1, z3.1, rfl, ⟨hv.nm, hl2, hv.aw, hv.pr⟩, by rw [hx]; rfl, hd⟩
theorem weights_all_mem {P : Program} {e : TypeId} : ∀ {ds : List (DataW H)} {i : Nat} {d : DataW H}, ds[i]? = some d → ∀ n ∈ d.weights P e, n ∈ DataW.weightsAll P e ds
  | [], i, d, h, n, _ => by simp at h
  | d' :: ds, 0, d, h, n, hn => by
    simp only [List.getElem?_cons_zero, Option.some.injEq] at h
    subst h
    rw [DataW.weightsAll]
    exact List.mem_append_left _ hn
  | d' :: ds, i + 1, d, h, n, hn => by
    simp only [List.getElem?_cons_succ] at h
    rw [DataW.weightsAll]
    exact List.mem_append_right _ (weights_all_mem h n hn)
set_option maxRecDepth 100000 in
/-- a database that came in is no larger than a machine holds -/
theorem sized_db {ts : List TypeId} {ds : List (DataW H)} {d0 d1 d2 d3 : DataW H} {l : List Fx} (h : (DataW.weightsEach Tryz.prog ts ds).all (· ≤ reachBytes) = true) {j : Nat} (ht : ts[j]? = some 30) (hd : ds[j]? = some (.agg [d0, d1, d2, d3]))
    (hl : FixDat l d1) : SzL l := by
  have hrb : reachBytes = 140737488351232 := by decide
  rcases hl with rfl | ⟨es, sp, rfl, hlen, hes⟩
  · intro f hf; cases hf
  · intro f hf
    obtain ⟨i, hi, rfl⟩ := List.getElem_of_mem hf
    obtain ⟨r, he⟩ := hes i hi
    have key : ∀ n : Nat, n ∈ DataW.weights Tryz.prog 68 (.agg (.lit (.string l[i].id) :: .lit (.string l[i].rg) :: r) : DataW H) → n ≤ 140737488351232 := fun n hn => by
      have hmem : n ∈ DataW.weightsEach Tryz.prog ts ds := by
        refine DataW.weights_mem_each ht hd _ ?_
        rw [DataW.weights, Tryz.underlying30]
        show _ ∈ DataW.weightsEach Tryz.prog [25, 26, 27, 28] [d0, .slice es sp, d2, d3]
        refine DataW.weights_mem_each (j := 1) rfl rfl _ ?_
        rw [DataW.weights, Tryz.underlying26]
        exact List.mem_cons_of_mem _ (List.mem_append_left _ (weights_all_mem he n hn))
      have h2 := of_decide_eq_true (List.all_eq_true.1 h _ hmem)
      omega
    rw [DataW.weights, Tryz.underlying68] at key
    have k0 := key l[i].id.length (by
      show _ ∈ DataW.weightsEach Tryz.prog [9, 9, 66, 23, 2, 2] (.lit (.string l[i].id) :: .lit (.string l[i].rg) :: r)
      exact DataW.weights_mem_each (j := 0) rfl rfl _ (by rw [DataW.weights]; exact List.mem_cons_self ..))
    have k1 := key l[i].rg.length (by
      show _ ∈ DataW.weightsEach Tryz.prog [9, 9, 66, 23, 2, 2] (.lit (.string l[i].id) :: .lit (.string l[i].rg) :: r)
      exact DataW.weights_mem_each (j := 1) rfl rfl _ (by rw [DataW.weights]; exact List.mem_cons_self ..))
    omega
/-- the few of a database have sizes to count with -/
theorem fewD_sz {D : DbD} (h : SzL D.fx) : SzD (fewD D) := by
  refine ⟨h.take 24, fun p hp => ?_⟩
  obtain ⟨q, hq, rfl⟩ := List.mem_map.1 hp
  refine ⟨?_, fun x hx => ?_⟩
  · show ((q.pa.take 5).map fewP).length ≤ 1000000
    rw [List.length_map, List.length_take]; omega
  · obtain ⟨y, hy, rfl⟩ := List.mem_map.1 hx
    show (y.lg.take 6).length ≤ 1000000
    rw [List.length_take]; omega
end
end Go.Proofs.YtecklnobgfahfaaGreatDoor
