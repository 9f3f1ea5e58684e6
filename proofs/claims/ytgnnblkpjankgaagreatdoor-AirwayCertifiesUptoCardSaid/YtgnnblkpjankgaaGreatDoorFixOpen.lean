/-
  Arguments that are fixes, opened to cells.
-/
import Derived.Test.YtgnnblkpjankgaaGreatDoorFixF
import Derived.Deep.Slices
import Derived.Deep.Fields
import Derived.ChangeSame
import Derived.Carry
import Derived.SizedLaws
namespace Go.Proofs.YtgnnblkpjankgaaGreatDoor
open Go.ChangeShapes Go.WideShapes Go.Deep Go.RowKit
set_option linter.unusedVariables false
set_option linter.unusedSimpArgs false

section
variable {H : Type} {enc : TypeId × Value → H} {w : World} {base : Nat} {held : Bool}
theorem cStringF : Tryz.prog.cellsOf 9 = 1 := by kernel_rfl
theorem cI64F : Tryz.prog.cellsOf 2 = 1 := by kernel_rfl
theorem cKind : Tryz.prog.cellsOf 49 = 1 := by kernel_rfl
theorem cPos : Tryz.prog.cellsOf 51 = 2 := by kernel_rfl
theorem cFix : Tryz.prog.cellsOf 53 = 7 := by kernel_rfl
set_option maxRecDepth 100000 in
theorem open_fix {fuel : Nat} {cs : List Value} {x : DataW H × List MemPlace} (h : DataW.trod enc Tryz.prog w base (fun _ => true) held fuel 53 cs = some x) : ∃ f : Fx, cs = fxc f ∧ f.id.length ≤ maxLen ∧ f.rg.length ≤ maxLen ∧ f.kd < 256 := by
  obtain ⟨ys, n, _, _, hl, hyl, hf⟩ := DataW.trod_struct Tryz.underlying53 h
  rw [cFix] at hl
  match cs, hl with
  | [c0, c1, c2, c3, c4, c5, c6], _ =>
    have h0 : DataW.trod enc Tryz.prog w base (fun _ => true) held n 9 (([c0, c1, c2, c3, c4, c5, c6].drop 0).take (Tryz.prog.cellsOf 9)) = ys[0]? := hf 0 _ rfl
    have h1 : DataW.trod enc Tryz.prog w base (fun _ => true) held n 9 (([c0, c1, c2, c3, c4, c5, c6].drop 1).take (Tryz.prog.cellsOf 9)) = ys[1]? := hf 1 _ rfl
    have h2 : DataW.trod enc Tryz.prog w base (fun _ => true) held n 49 (([c0, c1, c2, c3, c4, c5, c6].drop 2).take (Tryz.prog.cellsOf 49)) = ys[2]? := hf 2 _ rfl
    have h3 : DataW.trod enc Tryz.prog w base (fun _ => true) held n 51 (([c0, c1, c2, c3, c4, c5, c6].drop 3).take (Tryz.prog.cellsOf 51)) = ys[3]? := hf 3 _ rfl
    have h4 : DataW.trod enc Tryz.prog w base (fun _ => true) held n 2 (([c0, c1, c2, c3, c4, c5, c6].drop 5).take (Tryz.prog.cellsOf 2)) = ys[4]? := hf 4 _ rfl
    have h5 : DataW.trod enc Tryz.prog w base (fun _ => true) held n 2 (([c0, c1, c2, c3, c4, c5, c6].drop 6).take (Tryz.prog.cellsOf 2)) = ys[5]? := hf 5 _ rfl
    rw [cStringF] at h0 h1
    rw [cKind] at h2
    rw [cPos] at h3
    rw [cI64F] at h4 h5
    match ys, hyl with
    | [z0, z1, z2, z3, z4, z5], _ =>
      obtain ⟨s, e0, _, hs⟩ := DataW.trod_string Tryz.underlying9 (show DataW.trod enc Tryz.prog w base (fun _ => true) held n 9 [c0] = some z0 from h0)
      obtain ⟨r, e1, _, hr⟩ := DataW.trod_string Tryz.underlying9 (show DataW.trod enc Tryz.prog w base (fun _ => true) held n 9 [c1] = some z1 from h1)
      obtain ⟨d, e2, _, hd⟩ := DataW.trod_int Tryz.underlying49 (show DataW.trod enc Tryz.prog w base (fun _ => true) held n 49 [c2] = some z2 from h2)
      obtain ⟨el, e5, _, _⟩ := DataW.trod_int Tryz.underlying2 (show DataW.trod enc Tryz.prog w base (fun _ => true) held n 2 [c5] = some z4 from h4)
      obtain ⟨ra, e6, _, _⟩ := DataW.trod_int Tryz.underlying2 (show DataW.trod enc Tryz.prog w base (fun _ => true) held n 2 [c6] = some z5 from h5)
      obtain ⟨vs, n', _, _, _, hvl, hg⟩ := DataW.trod_struct Tryz.underlying51 (show DataW.trod enc Tryz.prog w base (fun _ => true) held n 51 [c3, c4] = some z3 from h3)
      have g0 : DataW.trod enc Tryz.prog w base (fun _ => true) held n' 2 (([c3, c4].drop 0).take (Tryz.prog.cellsOf 2)) = vs[0]? := hg 0 _ rfl
      have g1 : DataW.trod enc Tryz.prog w base (fun _ => true) held n' 2 (([c3, c4].drop 1).take (Tryz.prog.cellsOf 2)) = vs[1]? := hg 1 _ rfl
      rw [cI64F] at g0 g1
      match vs, hvl with
      | [y0, y1], _ =>
        obtain ⟨la, e3, _, _⟩ := DataW.trod_int Tryz.underlying2 (show DataW.trod enc Tryz.prog w base (fun _ => true) held n' 2 [c3] = some y0 from g0)
        obtain ⟨lo, e4, _, _⟩ := DataW.trod_int Tryz.underlying2 (show DataW.trod enc Tryz.prog w base (fun _ => true) held n' 2 [c4] = some y1 from g1)
        obtain rfl : c0 = .string s := by simpa using e0
        obtain rfl : c1 = .string r := by simpa using e1
        obtain rfl : c2 = .int .u8 d := by simpa using e2
        obtain rfl : c3 = .int .i64 la := by simpa using e3
        obtain rfl : c4 = .int .i64 lo := by simpa using e4
        obtain rfl : c5 = .int .i64 el := by simpa using e5
        obtain rfl : c6 = .int .i64 ra := by simpa using e6
        have hd2 : 0 ≤ d ∧ d < 256 := by
          have e1 : IntKind.u8.min = 0 := by decide
          have e2 : IntKind.u8.max = 255 := by decide
          simp [Lit.wf] at hd
          omega
        refine ⟨⟨bl s, bl r, d.toNat, la, lo, el, ra⟩, ?_, hs, hr, by show d.toNat < 256; omega⟩
        unfold fxc
        rw [sb_bl, sb_bl, show ((d.toNat : Nat) : Int) = d by omega]
set_option maxRecDepth 100000 in
theorem open_fix_n {fuel : Nat} {cs : List Value} {x : DataW H × List MemPlace} (h : DataW.trod enc Tryz.prog w base (fun _ => true) held fuel 53 cs = some x) : ∃ (f : Fx) (d2 d3 d4 d5 : DataW H), cs = fxc f ∧ f.id.length ≤ maxLen ∧ f.rg.length ≤ maxLen ∧ f.kd < 256 ∧ x.1 = .agg [.lit (.string f.id), .lit (.string f.rg), d2, d3, d4, d5] := by
  obtain ⟨ys, n, _, hx, hl, hyl, hf⟩ := DataW.trod_struct Tryz.underlying53 h
  rw [cFix] at hl
  match cs, hl with
  | [c0, c1, c2, c3, c4, c5, c6], _ =>
    have h0 : DataW.trod enc Tryz.prog w base (fun _ => true) held n 9 (([c0, c1, c2, c3, c4, c5, c6].drop 0).take (Tryz.prog.cellsOf 9)) = ys[0]? := hf 0 _ rfl
    have h1 : DataW.trod enc Tryz.prog w base (fun _ => true) held n 9 (([c0, c1, c2, c3, c4, c5, c6].drop 1).take (Tryz.prog.cellsOf 9)) = ys[1]? := hf 1 _ rfl
    have h2 : DataW.trod enc Tryz.prog w base (fun _ => true) held n 49 (([c0, c1, c2, c3, c4, c5, c6].drop 2).take (Tryz.prog.cellsOf 49)) = ys[2]? := hf 2 _ rfl
    have h3 : DataW.trod enc Tryz.prog w base (fun _ => true) held n 51 (([c0, c1, c2, c3, c4, c5, c6].drop 3).take (Tryz.prog.cellsOf 51)) = ys[3]? := hf 3 _ rfl
    have h4 : DataW.trod enc Tryz.prog w base (fun _ => true) held n 2 (([c0, c1, c2, c3, c4, c5, c6].drop 5).take (Tryz.prog.cellsOf 2)) = ys[4]? := hf 4 _ rfl
    have h5 : DataW.trod enc Tryz.prog w base (fun _ => true) held n 2 (([c0, c1, c2, c3, c4, c5, c6].drop 6).take (Tryz.prog.cellsOf 2)) = ys[5]? := hf 5 _ rfl
    rw [cStringF] at h0 h1
    rw [cKind] at h2
    rw [cPos] at h3
    rw [cI64F] at h4 h5
    match ys, hyl with
    | [z0, z1, z2, z3, z4, z5], _ =>
      obtain ⟨s, e0, w0, hs⟩ := DataW.trod_string Tryz.underlying9 (show DataW.trod enc Tryz.prog w base (fun _ => true) held n 9 [c0] = some z0 from h0)
      obtain ⟨r, e1, w1, hr⟩ := DataW.trod_string Tryz.underlying9 (show DataW.trod enc Tryz.prog w base (fun _ => true) held n 9 [c1] = some z1 from h1)
      obtain ⟨d, e2, _, hd⟩ := DataW.trod_int Tryz.underlying49 (show DataW.trod enc Tryz.prog w base (fun _ => true) held n 49 [c2] = some z2 from h2)
      obtain ⟨el, e5, _, _⟩ := DataW.trod_int Tryz.underlying2 (show DataW.trod enc Tryz.prog w base (fun _ => true) held n 2 [c5] = some z4 from h4)
      obtain ⟨ra, e6, _, _⟩ := DataW.trod_int Tryz.underlying2 (show DataW.trod enc Tryz.prog w base (fun _ => true) held n 2 [c6] = some z5 from h5)
      obtain ⟨vs, n', _, _, _, hvl, hg⟩ := DataW.trod_struct Tryz.underlying51 (show DataW.trod enc Tryz.prog w base (fun _ => true) held n 51 [c3, c4] = some z3 from h3)
      have g0 : DataW.trod enc Tryz.prog w base (fun _ => true) held n' 2 (([c3, c4].drop 0).take (Tryz.prog.cellsOf 2)) = vs[0]? := hg 0 _ rfl
      have g1 : DataW.trod enc Tryz.prog w base (fun _ => true) held n' 2 (([c3, c4].drop 1).take (Tryz.prog.cellsOf 2)) = vs[1]? := hg 1 _ rfl
      rw [cI64F] at g0 g1
      match vs, hvl with
      | [y0, y1], _ =>
        obtain ⟨la, e3, _, _⟩ := DataW.trod_int Tryz.underlying2 (show DataW.trod enc Tryz.prog w base (fun _ => true) held n' 2 [c3] = some y0 from g0)
        obtain ⟨lo, e4, _, _⟩ := DataW.trod_int Tryz.underlying2 (show DataW.trod enc Tryz.prog w base (fun _ => true) held n' 2 [c4] = some y1 from g1)
        obtain rfl : c0 = .string s := by simpa using e0
        obtain rfl : c1 = .string r := by simpa using e1
        obtain rfl : c2 = .int .u8 d := by simpa using e2
        obtain rfl : c3 = .int .i64 la := by simpa using e3
        obtain rfl : c4 = .int .i64 lo := by simpa using e4
        obtain rfl : c5 = .int .i64 el := by simpa using e5
        obtain rfl : c6 = .int .i64 ra := by simpa using e6
        have hd2 : 0 ≤ d ∧ d < 256 := by
          have e1 : IntKind.u8.min = 0 := by decide
          have e2 : IntKind.u8.max = 255 := by decide
          simp [Lit.wf] at hd
          omega
        refine ⟨⟨bl s, bl r, d.toNat, la, lo, el, ra⟩, z2.1, z3.1, z4.1, z5.1, ?_, hs, hr, by show d.toNat < 256; omega, by rw [hx, w0, w1]; rfl⟩
        unfold fxc
        rw [sb_bl, sb_bl, show ((d.toNat : Nat) : Int) = d by omega]
end
/-- the strings of a fix that came in are no longer than a machine holds -/
theorem sized_fix {H : Type} {ts : List TypeId} {ds : List (DataW H)} {a b : List UInt8} {d2 d3 d4 d5 : DataW H} (h : (DataW.weightsEach Tryz.prog ts ds).all (· ≤ reachBytes) = true) {j : Nat} (ht : ts[j]? = some 53) (hd : ds[j]? = some (.agg [.lit (.string a), .lit (.string b), d2, d3, d4, d5])) :
    a.length ≤ 1000000000000000 ∧ b.length ≤ 1000000000000000 := by
  have h3 := reachBytes_lt
  have key : ∀ n : Nat, n ∈ DataW.weightsEach Tryz.prog ts ds → n ≤ 1000000000000000 := fun n hn => by
    have h2 := of_decide_eq_true (List.all_eq_true.1 h _ hn)
    have : (2 : Nat) ^ 47 = 140737488355328 := by decide
    omega
  constructor
  · apply key
    refine DataW.weights_mem_each ht hd _ ?_
    rw [DataW.weights, Tryz.underlying53]
    show _ ∈ DataW.weightsEach Tryz.prog [9, 9, 49, 51, 2, 2] [.lit (.string a), .lit (.string b), d2, d3, d4, d5]
    exact DataW.weights_mem_each (j := 0) rfl rfl _ (by rw [DataW.weights]; exact List.mem_cons_self ..)
  · apply key
    refine DataW.weights_mem_each ht hd _ ?_
    rw [DataW.weights, Tryz.underlying53]
    show _ ∈ DataW.weightsEach Tryz.prog [9, 9, 49, 51, 2, 2] [.lit (.string a), .lit (.string b), d2, d3, d4, d5]
    exact DataW.weights_mem_each (j := 1) rfl rfl _ (by rw [DataW.weights]; exact List.mem_cons_self ..)
section
variable {H : Type} {enc : TypeId × Value → H} {P : Program} {w : World} {base : Nat} {spare : Nat → Bool} {held : Bool}
/-- a slice of elements of k cells each -/
theorem open_rowsF {t e : TypeId} {k fuel : Nat} {v : Value} {x : DataW H × List MemPlace} (ht : P.underlying t = some (.slice e)) (hk : P.cellsOf e = k) (h : DataW.trod enc P w base (fun _ => true) held fuel t [v] = some x) :
    (v = .slice none 0 0) ∨ ∃ (a : Addr) (len cap n : Nat), v = .slice (some a) len cap ∧ len ≤ cap ∧ cap ≤ maxLen ∧
      ∀ i, i < len → ∃ (cs : List Value) (y : DataW H × List MemPlace), cs.length = k ∧ (∀ j, j < k → w.cell? ((a.add (i * k)).add j) = cs[j]?) ∧ DataW.trod enc P w base (fun _ => true) held n e cs = some y := by
  rcases open_slice ht h with ⟨hcs, _⟩ | ⟨a, len, cap, m, n, D, Pl, hcs, hb, hl, hm, hmm, hx, hi⟩
  · left; simpa using hcs
  · right
    obtain rfl : v = .slice (some a) len cap := by simpa using hcs
    refine ⟨a, len, cap, n, rfl, hl, hm, fun i hil => ?_⟩
    obtain rfl : m = cap := hmm
    obtain ⟨cs', hc, ht'⟩ := hi i (by omega)
    rw [hk] at hc
    obtain ⟨_, hcl, hat⟩ := World.cells?_some hc
    exact ⟨cs', _, hcl, hat, ht'⟩
end
section
variable {H : Type} {enc : TypeId × Value → H} {w : World} {base : Nat} {held : Bool}
theorem open_fixes {fuel : Nat} {v : Value} {x : DataW H × List MemPlace} (h : DataW.trod enc Tryz.prog w base (fun _ => true) held fuel 23 [v] = some x) :
    ∃ l : List Fx, FxsR w v l ∧ ∀ i (_ : i < l.length), ∃ (es sp : List (DataW H)) (d2 d3 d4 d5 : DataW H), x.1 = .slice es sp ∧ es[i]? = some (.agg [.lit (.string l[i].id), .lit (.string l[i].rg), d2, d3, d4, d5]) := by
  rcases open_slice Tryz.underlying23 h with ⟨hcs, _⟩ | ⟨a, len, cap, m, n, D, Pl, hcs, hb, hl, hm, hmm, hx, hi⟩
  · obtain rfl : v = .slice none 0 0 := by simpa using hcs
    exact ⟨[], Rd.nil w 7, fun i hi => absurd hi (by simp)⟩
  · obtain rfl : v = .slice (some a) len cap := by simpa using hcs
    obtain rfl : m = cap := hmm
    obtain ⟨l, rfl, hp⟩ := list_of (P := fun i (p : Fx) => (∀ j, j < 7 → w.cell? ((a.add (i * 7)).add j) = (fxc p)[j]?) ∧ ∃ d2 d3 d4 d5 : DataW H, D i = .agg [.lit (.string p.id), .lit (.string p.rg), d2, d3, d4, d5]) len (fun i hil => by
      obtain ⟨cs', hc, ht'⟩ := hi i (by omega)
      rw [cFix] at hc
      obtain ⟨_, hcl, hat⟩ := World.cells?_some hc
      obtain ⟨p, d2, d3, d4, d5, rfl, _, _, _, hD⟩ := open_fix_n ht'
      exact ⟨p, hat, d2, d3, d4, d5, hD⟩)
    refine ⟨l, ?_, fun i hil => ?_⟩
    · have h2 := rdK_new (w := w) (a := a) (cap := m) (k := 7) (l.map fxc) (by intro c hc; rw [List.mem_map] at hc; obtain ⟨p, _, rfl⟩ := hc; rfl) (by decide) (by rw [List.length_map]; exact hl) hm (fun i hi2 j hj => by
        rw [List.length_map] at hi2
        rw [List.getElem_map]
        exact (hp i hi2).1 j hj)
      rw [List.length_map] at h2
      exact h2
    · obtain ⟨_, d2, d3, d4, d5, hD⟩ := hp i hil
      refine ⟨_, _, d2, d3, d4, d5, by rw [hx], ?_⟩
      rw [List.getElem?_map, List.getElem?_range hil, ← hD]; rfl
theorem weights_mem_all {P : Program} {e : TypeId} : ∀ {ds : List (DataW H)} {i : Nat} {d : DataW H}, ds[i]? = some d → ∀ n ∈ d.weights P e, n ∈ DataW.weightsAll P e ds
  | [], i, d, h, n, _ => by simp at h
  | d' :: ds, 0, d, h, n, hn => by
    simp only [List.getElem?_cons_zero, Option.some.injEq] at h
    subst h
    rw [DataW.weightsAll]
    exact List.mem_append_left _ hn
  | d' :: ds, i + 1, d, h, n, hn => by
    simp only [List.getElem?_cons_succ] at h
    rw [DataW.weightsAll]
    exact List.mem_append_right _ (weights_mem_all h n hn)
/-- the strings of the fixes of a slice that came in are no longer than a machine holds -/
theorem sized_fixes {ts : List TypeId} {ds : List (DataW H)} {d : DataW H} {l : List Fx} (h : (DataW.weightsEach Tryz.prog ts ds).all (· ≤ reachBytes) = true) {j : Nat} (ht : ts[j]? = some 23) (hd : ds[j]? = some d)
    (hl : ∀ i (_ : i < l.length), ∃ (es sp : List (DataW H)) (d2 d3 d4 d5 : DataW H), d = .slice es sp ∧ es[i]? = some (.agg [.lit (.string l[i].id), .lit (.string l[i].rg), d2, d3, d4, d5])) : SzL l := by
  intro f hf
  obtain ⟨i, hi, rfl⟩ := List.getElem_of_mem hf
  obtain ⟨es, sp, d2, d3, d4, d5, rfl, hes⟩ := hl i hi
  have h3 := reachBytes_lt
  have h4 : (2 : Nat) ^ 47 = 140737488355328 := by decide
  have key : ∀ n : Nat, n ∈ DataW.weights Tryz.prog 53 (.agg [.lit (.string l[i].id), .lit (.string l[i].rg), d2, d3, d4, d5] : DataW H) → n ≤ 1000000000000000 := fun n hn => by
    have h1 : n ∈ DataW.weightsEach Tryz.prog ts ds := by
      refine DataW.weights_mem_each ht hd _ ?_
      rw [DataW.weights, Tryz.underlying23]
      exact List.mem_cons_of_mem _ (List.mem_append_left _ (weights_mem_all hes n hn))
    have h2 := of_decide_eq_true (List.all_eq_true.1 h _ h1)
    omega
  constructor
  · apply key
    rw [DataW.weights, Tryz.underlying53]
    show _ ∈ DataW.weightsEach Tryz.prog [9, 9, 49, 51, 2, 2] [.lit (.string l[i].id), .lit (.string l[i].rg), d2, d3, d4, d5]
    exact DataW.weights_mem_each (j := 0) rfl rfl _ (by rw [DataW.weights]; exact List.mem_cons_self ..)
  · apply key
    rw [DataW.weights, Tryz.underlying53]
    show _ ∈ DataW.weightsEach Tryz.prog [9, 9, 49, 51, 2, 2] [.lit (.string l[i].id), .lit (.string l[i].rg), d2, d3, d4, d5]
    exact DataW.weights_mem_each (j := 1) rfl rfl _ (by rw [DataW.weights]; exact List.mem_cons_self ..)
end
end Go.Proofs.YtgnnblkpjankgaaGreatDoor
