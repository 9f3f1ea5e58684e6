/-
  Records among the arguments, opened to cells; their sizes by the row's own reach.
-/
import Derived.Test.YtinkdlmikhcpjaaGreatDoorMTak
import Derived.Deep.Slices
import Derived.Deep.Fields
import Derived.ChangeSame
import Derived.Carry
import Derived.SizedLaws
namespace Go.Proofs.YtinkdlmikhcpjaaGreatDoor
open Go.ChangeShapes Go.WideShapes Go.Deep Go.RowKit
set_option linter.unusedVariables false
set_option linter.unusedSimpArgs false

section
variable {H : Type} {enc : TypeId × Value → H} {w : World} {base : Nat} {held : Bool}
theorem cStringL : Tryz.prog.cellsOf 9 = 1 := by kernel_rfl
theorem cIntL : Tryz.prog.cellsOf 3 = 1 := by kernel_rfl
theorem cFieldL : Tryz.prog.cellsOf 94 = 2 := by kernel_rfl
theorem cFieldsL : Tryz.prog.cellsOf 84 = 1 := by kernel_rfl
theorem cLineL : Tryz.prog.cellsOf 86 = 2 := by kernel_rfl
theorem bytesField : Tryz.prog.bytesOf 94 = 24 := by kernel_rfl
theorem bytesLine : Tryz.prog.bytesOf 86 = 32 := by kernel_rfl
/-- a datum of fields -/
def FldsD (fs : List FldI) (d : DataW H) : Prop := (fs = [] ∨ ∃ es sp : List (DataW H), d = .slice es sp ∧ es.length = fs.length ∧ ∀ i (h : i < fs.length), ∃ d2, es[i]? = some (.agg [.lit (.string fs[i].1), d2]))
set_option maxRecDepth 100000 in
theorem open_fieldI {fuel : Nat} {cs : List Value} {x : DataW H × List MemPlace} (h : DataW.trod enc Tryz.prog w base (fun _ => true) held fuel 94 cs = some x) : ∃ (s : ByteArray) (k : Int) (d2 : DataW H), cs = [.string s, .int .i64 k] ∧ s.size ≤ maxLen ∧ x.1 = .agg [.lit (.string (bl s)), d2] := by
  obtain ⟨ys, n, _, hx, hl, hyl, hf⟩ := DataW.trod_struct Tryz.underlying94 h
  rw [cFieldL] at hl
  match cs, hl with
  | [c0, c1], _ =>
    have h0 : DataW.trod enc Tryz.prog w base (fun _ => true) held n 9 (([c0, c1].drop 0).take (Tryz.prog.cellsOf 9)) = ys[0]? := hf 0 _ rfl
    have h1 : DataW.trod enc Tryz.prog w base (fun _ => true) held n 3 (([c0, c1].drop 1).take (Tryz.prog.cellsOf 3)) = ys[1]? := hf 1 _ rfl
    rw [cStringL] at h0
    rw [cIntL] at h1
    match ys, hyl with
    | [z0, z1], _ =>
      obtain ⟨s, e0, hz, hs⟩ := DataW.trod_string Tryz.underlying9 (show DataW.trod enc Tryz.prog w base (fun _ => true) held n 9 [c0] = some z0 from h0)
      obtain ⟨k, e1, _, _⟩ := DataW.trod_int Tryz.underlying3 (show DataW.trod enc Tryz.prog w base (fun _ => true) held n 3 [c1] = some z1 from h1)
      obtain rfl : c0 = .string s := by simpa using e0
      obtain rfl : c1 = .int .i64 k := by simpa using e1
      exact ⟨s, k, z1.1, rfl, hs, by rw [hx, hz]; rfl⟩
theorem open_fieldsI {fuel : Nat} {v : Value} {x : DataW H × List MemPlace} (h : DataW.trod enc Tryz.prog w base (fun _ => true) held fuel 84 [v] = some x) :
    ∃ fs : List FldI, FsR w w.heap.size v fs ∧ FldsD fs x.1 := by
  rcases open_slice Tryz.underlying84 h with ⟨hcs, _⟩ | ⟨a, len, cap, m, n, D, Pl, hcs, hb, hl, hm, hmm, hx, hi⟩
  · obtain rfl : v = .slice none 0 0 := by simpa using hcs
    exact ⟨[], fsr_nil w _, .inl rfl⟩
  · obtain rfl : v = .slice (some a) len cap := by simpa using hcs
    obtain rfl : m = cap := hmm
    obtain ⟨l, rfl, hp⟩ := list_of (P := fun i (p : FldI) => (∀ j, j < 2 → w.cell? ((a.add (i * 2)).add j) = [Value.string (sb p.1), Value.int .i64 p.2][j]?) ∧ p.1.length ≤ maxLen ∧ ∃ d2 : DataW H, D i = .agg [.lit (.string p.1), d2]) len (fun i hil => by
      obtain ⟨cs', hc, ht'⟩ := hi i (by omega)
      rw [cFieldL] at hc
      obtain ⟨_, hcl, hat⟩ := World.cells?_some hc
      obtain ⟨s, k, d2, rfl, hs, hD⟩ := open_fieldI ht'
      exact ⟨(bl s, k), fun j hj => by rw [hat j hj]; show _ = [Value.string (sb (bl s)), Value.int .i64 k][j]?; rw [sb_bl], hs, d2, hD⟩)
    refine ⟨l, ?_, .inr ⟨_, _, by rw [hx], by rw [List.length_map, List.length_range], fun i hil => ?_⟩⟩
    · have h2 := rdK_new (w := w) (a := a) (cap := m) (k := 2) (l.map fun p => [Value.string (sb p.1), Value.int .i64 p.2]) (by intro c hc; rw [List.mem_map] at hc; obtain ⟨p, _, rfl⟩ := hc; rfl) (by decide) (by rw [List.length_map]; exact hl) hm (fun i hi2 j hj => by
        rw [List.length_map] at hi2
        rw [List.getElem_map]
        exact (hp i hi2).1 j hj)
      rw [List.length_map] at h2
      obtain ⟨_, A, c, hv, hc, hm2, hr⟩ := h2
      refine ⟨A, c, hv, hc, hm2, fun f hf => ?_, fun h0 => ?_⟩
      · obtain ⟨i, hi2, rfl⟩ := List.getElem_of_mem hf
        exact (hp i hi2).2.1
      · obtain ⟨g, o, hA, hg, hxx⟩ := hr h0
        refine ⟨g, o, hA, hg, fun j u hu => hxx j u ?_⟩
        rw [← hu]
        unfold ficells
        rw [List.flatMap_def]
    · obtain ⟨_, _, d2, hD⟩ := hp i hil
      exact ⟨d2, by rw [List.getElem?_map, List.getElem?_range hil, ← hD]; rfl⟩
/-- a datum of records -/
def LnsD (L : List Ln) (d : DataW H) : Prop := (L = [] ∨ ∃ es sp : List (DataW H), d = .slice es sp ∧ es.length = L.length ∧ ∀ i (h : i < L.length), ∃ d0 d1, es[i]? = some (.agg [d0, d1]) ∧ FldsD L[i].2 d1)
set_option maxRecDepth 100000 in
theorem open_lnI {fuel : Nat} {cs : List Value} {x : DataW H × List MemPlace} (h : DataW.trod enc Tryz.prog w base (fun _ => true) held fuel 86 cs = some x) : ∃ (k : Int) (v : Value) (fs : List FldI) (d0 d1 : DataW H), cs = [.int .i64 k, v] ∧ FsR w w.heap.size v fs ∧ FldsD fs d1 ∧ x.1 = .agg [d0, d1] := by
  obtain ⟨ys, n, _, hx, hl, hyl, hf⟩ := DataW.trod_struct Tryz.underlying86 h
  rw [cLineL] at hl
  match cs, hl with
  | [c0, c1], _ =>
    have h0 : DataW.trod enc Tryz.prog w base (fun _ => true) held n 3 (([c0, c1].drop 0).take (Tryz.prog.cellsOf 3)) = ys[0]? := hf 0 _ rfl
    have h1 : DataW.trod enc Tryz.prog w base (fun _ => true) held n 84 (([c0, c1].drop 1).take (Tryz.prog.cellsOf 84)) = ys[1]? := hf 1 _ rfl
    rw [cIntL] at h0
    rw [cFieldsL] at h1
    match ys, hyl with
    | [z0, z1], _ =>
      obtain ⟨k, e0, _, _⟩ := DataW.trod_int Tryz.underlying3 (show DataW.trod enc Tryz.prog w base (fun _ => true) held n 3 [c0] = some z0 from h0)
      obtain ⟨fs, hfr, hfd⟩ := open_fieldsI (show DataW.trod enc Tryz.prog w base (fun _ => true) held n 84 [c1] = some z1 from h1)
      obtain rfl : c0 = .int .i64 k := by simpa using e0
      exact ⟨k, c1, fs, z0.1, z1.1, rfl, hfr, hfd, by rw [hx]; rfl⟩
theorem open_lns {fuel : Nat} {v : Value} {x : DataW H × List MemPlace} (h : DataW.trod enc Tryz.prog w base (fun _ => true) held fuel 33 [v] = some x) :
    ∃ L : List Ln, ((∀ x ∈ L, LnOk x) → LnsR w v L) ∧ LnsD L x.1 := by
  rcases open_slice Tryz.underlying33 h with ⟨hcs, _⟩ | ⟨a, len, cap, m, n, D, Pl, hcs, hb, hl, hm, hmm, hx, hi⟩
  · obtain rfl : v = .slice none 0 0 := by simpa using hcs
    exact ⟨[], fun _ => ⟨none, 0, rfl, Nat.le_refl _, by unfold maxLen; omega, by simp, fun h0 => absurd h0 (by simp)⟩, .inl rfl⟩
  · obtain rfl : v = .slice (some a) len cap := by simpa using hcs
    obtain rfl : m = cap := hmm
    obtain ⟨l, rfl, hp⟩ := list_of (P := fun i (p : Int × Value × List FldI) => (∀ j, j < 2 → w.cell? ((a.add (i * 2)).add j) = [Value.int .i64 p.1, p.2.1][j]?) ∧ FsR w w.heap.size p.2.1 p.2.2 ∧ ∃ d0 d1 : DataW H, D i = .agg [d0, d1] ∧ FldsD p.2.2 d1) len (fun i hil => by
      obtain ⟨cs', hc, ht'⟩ := hi i (by omega)
      rw [cLineL] at hc
      obtain ⟨_, hcl, hat⟩ := World.cells?_some hc
      obtain ⟨k, v1, fs, d0, d1, rfl, hfr, hfd, hD⟩ := open_lnI ht'
      exact ⟨(k, v1, fs), hat, hfr, d0, d1, hD, hfd⟩)
    have hlen : (l.map fun p : Int × Value × List FldI => ((p.1, p.2.2) : Ln)).length = l.length := List.length_map _
    refine ⟨l.map fun p => (p.1, p.2.2), fun hok => ?_, .inr ⟨_, _, by rw [hx], by rw [List.length_map, List.length_range, hlen], fun i hil => ?_⟩⟩
    · have h2 := rdK_new (w := w) (a := a) (cap := m) (k := 2) (l.map fun p => [Value.int .i64 p.1, p.2.1]) (by intro c hc; rw [List.mem_map] at hc; obtain ⟨p, _, rfl⟩ := hc; rfl) (by decide) (by rw [List.length_map]; exact hl) hm (fun i hi2 j hj => by
        rw [List.length_map] at hi2
        rw [List.getElem_map]
        exact (hp i hi2).1 j hj)
      rw [List.length_map] at h2
      obtain ⟨_, A, c, hv, hc, hm2, hr⟩ := h2
      refine ⟨A, c, by rw [hlen]; exact hv, by rw [hlen]; exact hc, hm2, hok, fun h0 => ?_⟩
      rw [hlen] at h0
      obtain ⟨g, o, hA, hg, hxx⟩ := hr h0
      refine ⟨g, o, hA, hg, fun k hk => ?_⟩
      have hk2 : k < l.length := by rw [hlen] at hk; exact hk
      have hkk : ∀ c ∈ l.map (fun p => [Value.int .i64 p.1, p.2.1]), c.length = 2 := by intro c hc; rw [List.mem_map] at hc; obtain ⟨p, _, rfl⟩ := hc; rfl
      have f0 := flat_at (l.map fun p => [Value.int .i64 p.1, p.2.1]) hkk k 0 (by rw [List.length_map]; exact hk2) (by decide)
      have f1 := flat_at (l.map fun p => [Value.int .i64 p.1, p.2.1]) hkk k 1 (by rw [List.length_map]; exact hk2) (by decide)
      rw [List.getElem_map] at f0 f1
      have g0 := hxx _ _ f0
      have g1 := hxx _ _ f1
      rw [Nat.add_zero] at g0
      refine ⟨l[k].2.1, ?_, ?_, ?_⟩
      · rw [List.getElem_map]; exact g0
      · rw [← Nat.add_assoc] at g1; exact g1
      · rw [List.getElem_map]; exact (hp k hk2).2.1
    · rw [hlen] at hil
      obtain ⟨_, _, d0, d1, hD, hfd⟩ := hp i hil
      rw [List.getElem_map]
      exact ⟨d0, d1, by rw [List.getElem?_map, List.getElem?_range hil, ← hD]; rfl, hfd⟩
theorem weights_mem_all {P : Program} {e : TypeId} : ∀ {ds : List (DataW H)} {i : Nat} {d : DataW H}, ds[i]? = some d → ∀ n ∈ d.weights P e, n ∈ DataW.weightsAll P e ds
  | [], i, d, h, n, _ => by simp at h
  | d' :: ds, 0, d, h, n, hn => by
    simp only [List.getElem?_cons_zero, Option.some.injEq] at h
    subst h
    rw [DataW.weightsAll]
    exact List.mem_append_left _ hn
  | d' :: ds, i + 1, d, h, n, hn => by
    simp only [List.getElem?_cons_succ] at h
    rw [DataW.weightsAll]
    exact List.mem_append_right _ (weights_mem_all h n hn)
/-- records that came in are no larger than a machine holds -/
theorem sized_lns {ts : List TypeId} {ds : List (DataW H)} {d : DataW H} {L : List Ln} (h : (DataW.weightsEach Tryz.prog ts ds).all (· ≤ reachBytes) = true) {j : Nat} (ht : ts[j]? = some 33) (hd : ds[j]? = some d)
    (hl : LnsD L d) : L.length ≤ 4398046511104 ∧ ∀ x ∈ L, LnOk x := by
  have hrb : reachBytes = 140737488351232 := by decide
  rcases hl with rfl | ⟨es, sp, rfl, hlen, hes⟩
  · exact ⟨by simp, by simp⟩
  · have key0 : ∀ n : Nat, n ∈ DataW.weights Tryz.prog 33 (.slice es sp : DataW H) → n ≤ 140737488351232 := fun n hn => by
      have h2 := of_decide_eq_true (List.all_eq_true.1 h _ (DataW.weights_mem_each ht hd _ hn))
      omega
    constructor
    · have := key0 ((es.length + sp.length) * Tryz.prog.bytesOf 86) (by rw [DataW.weights, Tryz.underlying33]; exact List.mem_cons_self ..)
      rw [bytesLine] at this
      omega
    · intro x hx
      obtain ⟨i, hi, rfl⟩ := List.getElem_of_mem hx
      obtain ⟨d0, d1, he, hf⟩ := hes i hi
      have key1 : ∀ n : Nat, n ∈ DataW.weights Tryz.prog 84 d1 → n ≤ 140737488351232 := fun n hn => by
        refine key0 n ?_
        rw [DataW.weights, Tryz.underlying33]
        refine List.mem_cons_of_mem _ (List.mem_append_left _ (weights_mem_all he n ?_))
        rw [DataW.weights, Tryz.underlying86]
        show _ ∈ DataW.weightsEach Tryz.prog [3, 84] [d0, d1]
        exact DataW.weights_mem_each (j := 1) rfl rfl _ hn
      rcases hf with hf | ⟨es2, sp2, rfl, hlen2, hes2⟩
      · refine ⟨by rw [hf]; simp, by rw [hf]; simp⟩
      · constructor
        · have := key1 ((es2.length + sp2.length) * Tryz.prog.bytesOf 94) (by rw [DataW.weights, Tryz.underlying84]; exact List.mem_cons_self ..)
          rw [bytesField] at this
          omega
        · intro f hfm
          obtain ⟨k, hk, rfl⟩ := List.getElem_of_mem hfm
          obtain ⟨d2, he2⟩ := hes2 k hk
          refine key1 _ ?_
          rw [DataW.weights, Tryz.underlying84]
          refine List.mem_cons_of_mem _ (List.mem_append_left _ (weights_mem_all he2 _ ?_))
          rw [DataW.weights, Tryz.underlying94]
          show _ ∈ DataW.weightsEach Tryz.prog [9, 3] [.lit (.string _), d2]
          exact DataW.weights_mem_each (j := 0) rfl rfl _ (by rw [DataW.weights]; exact List.mem_cons_self ..)
end
end Go.Proofs.YtinkdlmikhcpjaaGreatDoor
