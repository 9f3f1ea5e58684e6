/-
  An airway that came in, opened to cells, with its datum: how many points it has at most.
-/
import Derived.Test.YtkopjbjkfeopfaaDoorAwOpen
import Derived.SizedLaws
namespace Go.Proofs.YtkopjbjkfeopfaaDoor
open Go.ChangeShapes Go.WideShapes Go.Deep Go.RowKit
set_option linter.unusedVariables false
set_option linter.unusedSimpArgs false

section
variable {H : Type} {enc : TypeId × Value → H} {w : World} {base : Nat} {held : Bool}
/-- the elements of a slice's datum -/
def elemsOf {H : Type} : DataW H → Nat
  | .slice elems _ => elems.length
  | _ => 0
theorem open_points_n {fuel : Nat} {v : Value} {x : DataW H × List MemPlace} (h : DataW.trod enc Tryd.prog w base (fun _ => true) held fuel 22 [v] = some x) : ∃ l, PtsR w v l ∧ l.length = elemsOf x.1 := by
  obtain ⟨l, hl⟩ := open_points h
  refine ⟨l, hl, ?_⟩
  obtain ⟨A, c, hv, _, _⟩ := hl.form
  rcases open_slice Tryd.underlying22 h with ⟨hcs, rfl⟩ | ⟨a, len, cap, m, n, D, Pl, hcs, hb, hle, hm, hmm, rfl, hi⟩
  · rw [hv] at hcs
    simp only [List.cons.injEq, Value.slice.injEq, and_true] at hcs
    exact hcs.2.1
  · rw [hv] at hcs
    simp only [List.cons.injEq, Value.slice.injEq, and_true] at hcs
    show l.length = ((List.range len).map D).length
    rw [List.length_map, List.length_range]
    exact hcs.2.1
set_option maxRecDepth 100000 in
theorem open_airway_n {fuel : Nat} {cs : List Value} {x : DataW H × List MemPlace} (h : DataW.trod enc Tryd.prog w base (fun _ => true) held fuel 24 cs = some x) : ∃ (nm : ByteArray) (pv : Value) (l : List Pt) (d0 d1 : DataW H), cs = [.string nm, pv] ∧ nm.size ≤ maxLen ∧ PtsR w pv l ∧ x.1 = .agg [d0, d1] ∧ l.length = elemsOf d1 := by
  obtain ⟨ys, n, _, hx, hl, hyl, hf⟩ := DataW.trod_struct Tryd.underlying24 h
  rw [cAirway] at hl
  match cs, hl with
  | [c0, c1], _ =>
    have h0 : DataW.trod enc Tryd.prog w base (fun _ => true) held n 9 (([c0, c1].drop 0).take (Tryd.prog.cellsOf 9)) = ys[0]? := hf 0 _ rfl
    have h1 : DataW.trod enc Tryd.prog w base (fun _ => true) held n 22 (([c0, c1].drop 1).take (Tryd.prog.cellsOf 22)) = ys[1]? := hf 1 _ rfl
    rw [cString] at h0
    rw [cPoints] at h1
    match ys, hyl with
    | [z0, z1], _ =>
      obtain ⟨s, e0, _, hs⟩ := DataW.trod_string Tryd.underlying9 (show DataW.trod enc Tryd.prog w base (fun _ => true) held n 9 [c0] = some z0 from h0)
      obtain ⟨l, hp, hpl⟩ := open_points_n (show DataW.trod enc Tryd.prog w base (fun _ => true) held n 22 [c1] = some z1 from h1)
      obtain rfl : c0 = .string s := by simpa using e0
      exact ⟨s, c1, l, z0.1, z1.1, rfl, hs, hp, by rw [hx]; rfl, hpl⟩
end
theorem bytesPoint : Tryd.prog.bytesOf 34 = 40 := by kernel_rfl
/-- how many points an airway that came in has at most -/
theorem sized_points {H : Type} {ts : List TypeId} {ds : List (DataW H)} {d0 d1 : DataW H} (h : (DataW.weightsEach Tryd.prog ts ds).all (· ≤ reachBytes) = true) {j : Nat} (ht : ts[j]? = some 24) (hd : ds[j]? = some (.agg [d0, d1])) : elemsOf d1 ≤ 4398046511104 := by
  cases d1 with
  | slice elems spare =>
    have h1 : (elems.length + spare.length) * Tryd.prog.bytesOf 34 ∈ DataW.weightsEach Tryd.prog ts ds := by
      refine DataW.weights_mem_each ht hd _ ?_
      rw [DataW.weights, Tryd.underlying24]
      show _ ∈ DataW.weightsEach Tryd.prog [9, 22] [d0, .slice elems spare]
      refine DataW.weights_mem_each (j := 1) rfl rfl _ ?_
      rw [DataW.weights, Tryd.underlying22]
      exact List.mem_cons_self ..
    have h2 := of_decide_eq_true (List.all_eq_true.1 h _ h1)
    have h3 := reachBytes_lt
    rw [bytesPoint] at h2
    show elems.length ≤ _
    omega
  | _ => exact Nat.zero_le _
end Go.Proofs.YtkopjbjkfeopfaaDoor
