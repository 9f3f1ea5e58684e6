/-
  Arguments that are airways and lists of airways, opened to cells.
-/
import Derived.Test.YtgnnblkpjankgaaGreatDoorAwL
import Derived.OpenShut
import Derived.ShutString
import Derived.Deep.Slices
import Derived.Deep.Fields
import Derived.ChangeSame
import Derived.Carry
namespace Go.Proofs.YtgnnblkpjankgaaGreatDoor
open Go.ChangeShapes Go.WideShapes Go.Deep Go.RowKit
set_option linter.unusedVariables false
set_option linter.unusedSimpArgs false

section
variable {H : Type} {enc : TypeId × Value → H} {P : Program} {w : World} {base : Nat} {spare : Nat → Bool} {held : Bool}
/-- a slice of elements of k cells each -/
theorem open_rows {t e : TypeId} {k fuel : Nat} {v : Value} {x : DataW H × List MemPlace} (ht : P.underlying t = some (.slice e)) (hk : P.cellsOf e = k) (h : DataW.trod enc P w base (fun _ => true) held fuel t [v] = some x) :
    (v = .slice none 0 0) ∨ ∃ (a : Addr) (len cap n : Nat), v = .slice (some a) len cap ∧ len ≤ cap ∧ cap ≤ maxLen ∧
      ∀ i, i < len → ∃ (cs : List Value) (y : DataW H × List MemPlace), cs.length = k ∧ (∀ j, j < k → w.cell? ((a.add (i * k)).add j) = cs[j]?) ∧ DataW.trod enc P w base (fun _ => true) held n e cs = some y := by
  rcases open_slice ht h with ⟨hcs, _⟩ | ⟨a, len, cap, m, n, D, Pl, hcs, hb, hl, hm, hmm, hx, hi⟩
  · left; simpa using hcs
  · right
    obtain rfl : v = .slice (some a) len cap := by simpa using hcs
    refine ⟨a, len, cap, n, rfl, hl, hm, fun i hil => ?_⟩
    obtain rfl : m = cap := hmm
    obtain ⟨cs', hc, ht'⟩ := hi i (by omega)
    rw [hk] at hc
    obtain ⟨_, hcl, hat⟩ := World.cells?_some hc
    exact ⟨cs', _, hcl, hat, ht'⟩
end
section
variable {H : Type} {enc : TypeId × Value → H} {w : World} {base : Nat} {held : Bool}
theorem cString : Tryz.prog.cellsOf 9 = 1 := by kernel_rfl
theorem cI64 : Tryz.prog.cellsOf 2 = 1 := by kernel_rfl
theorem cU8 : Tryz.prog.cellsOf 5 = 1 := by kernel_rfl
theorem cWindow : Tryz.prog.cellsOf 46 = 2 := by kernel_rfl
theorem cPoint : Tryz.prog.cellsOf 68 = 4 := by kernel_rfl
theorem cPoints : Tryz.prog.cellsOf 61 = 1 := by kernel_rfl
theorem cAirway : Tryz.prog.cellsOf 63 = 2 := by kernel_rfl
set_option maxRecDepth 100000 in
theorem open_point {fuel : Nat} {cs : List Value} {x : DataW H × List MemPlace} (h : DataW.trod enc Tryz.prog w base (fun _ => true) held fuel 68 cs = some x) : ∃ p : Pt, cs = ptc p ∧ p.ref.length ≤ maxLen ∧ p.dir < 256 := by
  obtain ⟨ys, n, _, _, hl, hyl, hf⟩ := DataW.trod_struct Tryz.underlying68 h
  rw [cPoint] at hl
  match cs, hl with
  | [c0, c1, c2, c3], _ =>
    have h0 : DataW.trod enc Tryz.prog w base (fun _ => true) held n 9 (([c0, c1, c2, c3].drop 0).take (Tryz.prog.cellsOf 9)) = ys[0]? := hf 0 _ rfl
    have h1 : DataW.trod enc Tryz.prog w base (fun _ => true) held n 46 (([c0, c1, c2, c3].drop 1).take (Tryz.prog.cellsOf 46)) = ys[1]? := hf 1 _ rfl
    have h2 : DataW.trod enc Tryz.prog w base (fun _ => true) held n 5 (([c0, c1, c2, c3].drop 3).take (Tryz.prog.cellsOf 5)) = ys[2]? := hf 2 _ rfl
    rw [cString] at h0
    rw [cWindow] at h1
    rw [cU8] at h2
    match ys, hyl with
    | [z0, z1, z2], _ =>
      obtain ⟨s, e0, _, hs⟩ := DataW.trod_string Tryz.underlying9 (show DataW.trod enc Tryz.prog w base (fun _ => true) held n 9 [c0] = some z0 from h0)
      obtain ⟨d, e3, _, hd⟩ := DataW.trod_int Tryz.underlying5 (show DataW.trod enc Tryz.prog w base (fun _ => true) held n 5 [c3] = some z2 from h2)
      obtain ⟨vs, n', _, _, _, hvl, hg⟩ := DataW.trod_struct Tryz.underlying46 (show DataW.trod enc Tryz.prog w base (fun _ => true) held n 46 [c1, c2] = some z1 from h1)
      have g0 : DataW.trod enc Tryz.prog w base (fun _ => true) held n' 2 (([c1, c2].drop 0).take (Tryz.prog.cellsOf 2)) = vs[0]? := hg 0 _ rfl
      have g1 : DataW.trod enc Tryz.prog w base (fun _ => true) held n' 2 (([c1, c2].drop 1).take (Tryz.prog.cellsOf 2)) = vs[1]? := hg 1 _ rfl
      rw [cI64] at g0 g1
      match vs, hvl with
      | [y0, y1], _ =>
        obtain ⟨lo, e1, _, _⟩ := DataW.trod_int Tryz.underlying2 (show DataW.trod enc Tryz.prog w base (fun _ => true) held n' 2 [c1] = some y0 from g0)
        obtain ⟨hi, e2, _, _⟩ := DataW.trod_int Tryz.underlying2 (show DataW.trod enc Tryz.prog w base (fun _ => true) held n' 2 [c2] = some y1 from g1)
        obtain rfl : c0 = .string s := by simpa using e0
        obtain rfl : c1 = .int .i64 lo := by simpa using e1
        obtain rfl : c2 = .int .i64 hi := by simpa using e2
        obtain rfl : c3 = .int .u8 d := by simpa using e3
        have hd2 : 0 ≤ d ∧ d < 256 := by
          have e1 : IntKind.u8.min = 0 := by decide
          have e2 : IntKind.u8.max = 255 := by decide
          simp [Lit.wf] at hd
          omega
        refine ⟨⟨bl s, lo, hi, d.toNat⟩, ?_, hs, by show d.toNat < 256; omega⟩
        unfold ptc
        rw [sb_bl, show ((d.toNat : Nat) : Int) = d by omega]
theorem open_points {fuel : Nat} {v : Value} {x : DataW H × List MemPlace} (h : DataW.trod enc Tryz.prog w base (fun _ => true) held fuel 61 [v] = some x) : ∃ l, PtsR w v l := by
  rcases open_rows Tryz.underlying61 cPoint h with rfl | ⟨a, len, cap, n, rfl, hl, hm, hi⟩
  · exact ⟨[], ptsR_nil w⟩
  · obtain ⟨l, rfl, hp⟩ := list_of (P := fun i (p : Pt) => (∀ j, j < 4 → w.cell? ((a.add (i * 4)).add j) = (ptc p)[j]?) ∧ p.ref.length ≤ maxLen ∧ p.dir < 256) len (fun i hil => by
      obtain ⟨cs, y, _, hc, ht⟩ := hi i hil
      obtain ⟨p, rfl, h1, h2⟩ := open_point ht
      exact ⟨p, hc, h1, h2⟩)
    refine ⟨l, ?_, fun p hpm => ?_⟩
    · have h2 := rdK_new (w := w) (a := a) (cap := cap) (k := 4) (l.map ptc) (by intro c hc; rw [List.mem_map] at hc; obtain ⟨p, _, rfl⟩ := hc; rfl) (by decide) (by rw [List.length_map]; exact hl) hm (fun i hi2 j hj => by
        rw [List.length_map] at hi2
        rw [List.getElem_map]
        exact (hp i hi2).1 j hj)
      rw [List.length_map] at h2
      exact h2
    · obtain ⟨i, hi2, rfl⟩ := List.getElem_of_mem hpm
      exact (hp i hi2).2
set_option maxRecDepth 100000 in
theorem open_airway {fuel : Nat} {cs : List Value} {x : DataW H × List MemPlace} (h : DataW.trod enc Tryz.prog w base (fun _ => true) held fuel 63 cs = some x) : ∃ (nm : ByteArray) (pv : Value) (l : List Pt), cs = [.string nm, pv] ∧ nm.size ≤ maxLen ∧ PtsR w pv l := by
  obtain ⟨ys, n, _, _, hl, hyl, hf⟩ := DataW.trod_struct Tryz.underlying63 h
  rw [cAirway] at hl
  match cs, hl with
  | [c0, c1], _ =>
    have h0 : DataW.trod enc Tryz.prog w base (fun _ => true) held n 9 (([c0, c1].drop 0).take (Tryz.prog.cellsOf 9)) = ys[0]? := hf 0 _ rfl
    have h1 : DataW.trod enc Tryz.prog w base (fun _ => true) held n 61 (([c0, c1].drop 1).take (Tryz.prog.cellsOf 61)) = ys[1]? := hf 1 _ rfl
    rw [cString] at h0
    rw [cPoints] at h1
    match ys, hyl with
    | [z0, z1], _ =>
      obtain ⟨s, e0, _, hs⟩ := DataW.trod_string Tryz.underlying9 (show DataW.trod enc Tryz.prog w base (fun _ => true) held n 9 [c0] = some z0 from h0)
      obtain ⟨l, hp⟩ := open_points (show DataW.trod enc Tryz.prog w base (fun _ => true) held n 61 [c1] = some z1 from h1)
      obtain rfl : c0 = .string s := by simpa using e0
      exact ⟨s, c1, l, rfl, hs, hp⟩
theorem open_airways {fuel : Nat} {v : Value} {x : DataW H × List MemPlace} (h : DataW.trod enc Tryz.prog w base (fun _ => true) held fuel 22 [v] = some x) : ∃ L, AwsR w v L := by
  rcases open_rows Tryz.underlying22 cAirway h with rfl | ⟨a, len, cap, n, rfl, hl, hm, hi⟩
  · exact ⟨[], [], Rd.nil w 2, fun k hk => absurd hk (by simp)⟩
  · obtain ⟨l, rfl, hp⟩ := list_of (P := fun i (p : ByteArray × Value × List Pt) => (∀ j, j < 2 → w.cell? ((a.add (i * 2)).add j) = [Value.string p.1, p.2.1][j]?) ∧ p.1.size ≤ maxLen ∧ PtsR w p.2.1 p.2.2) len (fun i hil => by
      obtain ⟨cs, y, _, hc, ht⟩ := hi i hil
      obtain ⟨nm, pv, pts, rfl, h1, h2⟩ := open_airway ht
      exact ⟨(nm, pv, pts), hc, h1, h2⟩)
    have hk2 : ∀ c ∈ l.map (fun p : ByteArray × Value × List Pt => [Value.string p.1, p.2.1]), c.length = 2 := by
      intro c hc; rw [List.mem_map] at hc; obtain ⟨p, _, rfl⟩ := hc; rfl
    have h2 := rdK_new (w := w) (a := a) (cap := cap) (k := 2) (l.map fun p : ByteArray × Value × List Pt => [Value.string p.1, p.2.1]) hk2 (by decide) (by rw [List.length_map]; exact hl) hm (fun i hi2 j hj => by
      rw [List.length_map] at hi2
      rw [List.getElem_map]
      exact (hp i hi2).1 j hj)
    rw [List.length_map] at h2
    refine ⟨l.map fun p => ⟨bl p.1, p.2.2⟩, _, by rw [List.length_map]; exact h2, fun k hk => ?_⟩
    rw [List.length_map] at hk
    have f0 := flat_at _ hk2 k 0 (by rw [List.length_map]; exact hk) (by decide)
    have f1 := flat_at _ hk2 k 1 (by rw [List.length_map]; exact hk) (by decide)
    rw [List.getElem_map] at f0 f1
    rw [List.getElem_map]
    refine ⟨l[k].2.1, ?_, ?_, (hp k hk).2.2, (hp k hk).2.1⟩
    · rw [sb_bl]; exact f0
    · exact f1
end
end Go.Proofs.YtgnnblkpjankgaaGreatDoor
