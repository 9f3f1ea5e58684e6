/-
  Arguments that are claims (a trip and a way with labels), opened to cells.
-/
import Derived.Test.YtgnnblkpjankgaaGreatDoorFixOpen
import Derived.Test.YtgnnblkpjankgaaGreatDoorMCk
import Derived.Test.YtgnnblkpjankgaaGreatDoorRows
import Derived.ChangeSlices
import Derived.ProofKit
namespace Go.Proofs.YtgnnblkpjankgaaGreatDoor
open Go.ChangeShapes Go.WideShapes Go.ChangeAt Go.Deep Go.RowKit
set_option linter.unusedVariables false
set_option linter.unusedSimpArgs false

section
variable {H : Type}
theorem bulk_one (d : DataW H) : 1 ≤ Rows.uptoBulk d := by
  cases d with
  | lit l => cases l <;> simp [Rows.uptoBulk]
  | nil => simp [Rows.uptoBulk]
  | ptr d => simp [Rows.uptoBulk]
  | slice elems spare => simp [Rows.uptoBulk]
  | agg parts => simp [Rows.uptoBulk]
  | iface t d => simp [Rows.uptoBulk]
  | map entries => simp [Rows.uptoBulk]
  | held h => simp [Rows.uptoBulk]
theorem bulk_len : ∀ (l : List (DataW H)), l.length ≤ Rows.uptoBulkAll l
  | [] => by simp [Rows.uptoBulkAll]
  | x :: r => by
    have h1 := bulk_one x
    have h2 := bulk_len r
    simp only [Rows.uptoBulkAll, List.length_cons]; omega
theorem bulk_slice (es sp : List (DataW H)) : es.length ≤ Rows.uptoBulk (.slice es sp) := by
  have h := bulk_len es
  simp only [Rows.uptoBulk]; omega
end
section
variable {H : Type} {enc : TypeId × Value → H} {w : World} {base : Nat} {held : Bool}
theorem cHop : Tryz.prog.cellsOf 48 = 4 := by kernel_rfl
theorem cLabel : Tryz.prog.cellsOf 59 = 3 := by kernel_rfl
theorem cWindow : Tryz.prog.cellsOf 46 = 2 := by kernel_rfl
theorem cWay : Tryz.prog.cellsOf 27 = 3 := by kernel_rfl
theorem cClaim : Tryz.prog.cellsOf 29 = 5 := by kernel_rfl
theorem cHops : Tryz.prog.cellsOf 24 = 1 := by kernel_rfl
theorem cLabels : Tryz.prog.cellsOf 25 = 1 := by kernel_rfl
theorem i64_wf {n : Int} (h : (Lit.int .i64 n).wf = true) : -9223372036854775808 ≤ n ∧ n ≤ 9223372036854775807 := by
  have e1 : IntKind.i64.min = -9223372036854775808 := by decide
  have e2 : IntKind.i64.max = 9223372036854775807 := by decide
  simp [Lit.wf] at h
  omega
set_option maxRecDepth 100000 in
theorem open_hop {fuel : Nat} {cs : List Value} {x : DataW H × List MemPlace} (h : DataW.trod enc Tryz.prog w base (fun _ => true) held fuel 48 cs = some x) : ∃ p : Hp, cs = hpc p := by
  obtain ⟨ys, n, _, _, hl, hyl, hf⟩ := DataW.trod_struct Tryz.underlying48 h
  rw [cHop] at hl
  match cs, hl with
  | [c0, c1, c2, c3], _ =>
    have h0 : DataW.trod enc Tryz.prog w base (fun _ => true) held n 9 (([c0, c1, c2, c3].drop 0).take (Tryz.prog.cellsOf 9)) = ys[0]? := hf 0 _ rfl
    have h1 : DataW.trod enc Tryz.prog w base (fun _ => true) held n 9 (([c0, c1, c2, c3].drop 1).take (Tryz.prog.cellsOf 9)) = ys[1]? := hf 1 _ rfl
    have h2 : DataW.trod enc Tryz.prog w base (fun _ => true) held n 46 (([c0, c1, c2, c3].drop 2).take (Tryz.prog.cellsOf 46)) = ys[2]? := hf 2 _ rfl
    rw [cStringF] at h0 h1
    rw [cWindow] at h2
    match ys, hyl with
    | [z0, z1, z2], _ =>
      obtain ⟨s, e0, _, hs⟩ := DataW.trod_string Tryz.underlying9 (show DataW.trod enc Tryz.prog w base (fun _ => true) held n 9 [c0] = some z0 from h0)
      obtain ⟨r, e1, _, hr⟩ := DataW.trod_string Tryz.underlying9 (show DataW.trod enc Tryz.prog w base (fun _ => true) held n 9 [c1] = some z1 from h1)
      obtain ⟨vs, n', _, _, _, hvl, hg⟩ := DataW.trod_struct Tryz.underlying46 (show DataW.trod enc Tryz.prog w base (fun _ => true) held n 46 [c2, c3] = some z2 from h2)
      have g0 : DataW.trod enc Tryz.prog w base (fun _ => true) held n' 2 (([c2, c3].drop 0).take (Tryz.prog.cellsOf 2)) = vs[0]? := hg 0 _ rfl
      have g1 : DataW.trod enc Tryz.prog w base (fun _ => true) held n' 2 (([c2, c3].drop 1).take (Tryz.prog.cellsOf 2)) = vs[1]? := hg 1 _ rfl
      rw [cI64F] at g0 g1
      match vs, hvl with
      | [y0, y1], _ =>
        obtain ⟨lo, e2, _, _⟩ := DataW.trod_int Tryz.underlying2 (show DataW.trod enc Tryz.prog w base (fun _ => true) held n' 2 [c2] = some y0 from g0)
        obtain ⟨hi, e3, _, _⟩ := DataW.trod_int Tryz.underlying2 (show DataW.trod enc Tryz.prog w base (fun _ => true) held n' 2 [c3] = some y1 from g1)
        obtain rfl : c0 = .string s := by simpa using e0
        obtain rfl : c1 = .string r := by simpa using e1
        obtain rfl : c2 = .int .i64 lo := by simpa using e2
        obtain rfl : c3 = .int .i64 hi := by simpa using e3
        refine ⟨⟨bl s, bl r, lo, hi⟩, ?_⟩
        unfold hpc
        rw [sb_bl, sb_bl]
set_option maxRecDepth 100000 in
theorem open_label {fuel : Nat} {cs : List Value} {x : DataW H × List MemPlace} (h : DataW.trod enc Tryz.prog w base (fun _ => true) held fuel 59 cs = some x) : ∃ p : Rf × Lb, cs = lbc p ∧ p.1.length ≤ maxLen ∧ -9223372036854775808 ≤ p.2.1 ∧ p.2.1 ≤ 9223372036854775807 := by
  obtain ⟨ys, n, _, _, hl, hyl, hf⟩ := DataW.trod_struct Tryz.underlying59 h
  rw [cLabel] at hl
  match cs, hl with
  | [c0, c1, c2], _ =>
    have h0 : DataW.trod enc Tryz.prog w base (fun _ => true) held n 9 (([c0, c1, c2].drop 0).take (Tryz.prog.cellsOf 9)) = ys[0]? := hf 0 _ rfl
    have h1 : DataW.trod enc Tryz.prog w base (fun _ => true) held n 2 (([c0, c1, c2].drop 1).take (Tryz.prog.cellsOf 2)) = ys[1]? := hf 1 _ rfl
    have h2 : DataW.trod enc Tryz.prog w base (fun _ => true) held n 2 (([c0, c1, c2].drop 2).take (Tryz.prog.cellsOf 2)) = ys[2]? := hf 2 _ rfl
    rw [cStringF] at h0
    rw [cI64F] at h1 h2
    match ys, hyl with
    | [z0, z1, z2], _ =>
      obtain ⟨s, e0, _, hs⟩ := DataW.trod_string Tryz.underlying9 (show DataW.trod enc Tryz.prog w base (fun _ => true) held n 9 [c0] = some z0 from h0)
      obtain ⟨l1, e1, _, hw1⟩ := DataW.trod_int Tryz.underlying2 (show DataW.trod enc Tryz.prog w base (fun _ => true) held n 2 [c1] = some z1 from h1)
      obtain ⟨l2, e2, _, _⟩ := DataW.trod_int Tryz.underlying2 (show DataW.trod enc Tryz.prog w base (fun _ => true) held n 2 [c2] = some z2 from h2)
      obtain rfl : c0 = .string s := by simpa using e0
      obtain rfl : c1 = .int .i64 l1 := by simpa using e1
      obtain rfl : c2 = .int .i64 l2 := by simpa using e2
      refine ⟨(bl s, (l1, l2)), ?_, hs, i64_wf hw1⟩
      unfold lbc
      rw [sb_bl]
theorem open_hps {fuel : Nat} {v : Value} {x : DataW H × List MemPlace} (h : DataW.trod enc Tryz.prog w base (fun _ => true) held fuel 24 [v] = some x) : ∃ l : List Hp, RdH w v l ∧ l.length ≤ Rows.uptoBulk x.1 := by
  rcases open_slice Tryz.underlying24 h with ⟨hcs, _⟩ | ⟨a, len, cap, m, n, D, Pl, hcs, hb, hl, hm, hmm, hx, hi⟩
  · obtain rfl : v = .slice none 0 0 := by simpa using hcs
    exact ⟨[], Rd.nil w 4, Nat.zero_le _⟩
  · obtain rfl : v = .slice (some a) len cap := by simpa using hcs
    obtain rfl : m = cap := hmm
    obtain ⟨l, rfl, hp⟩ := list_of (P := fun i (p : Hp) => ∀ j, j < 4 → w.cell? ((a.add (i * 4)).add j) = (hpc p)[j]?) len (fun i hil => by
      obtain ⟨cs', hc, ht'⟩ := hi i (by omega)
      rw [cHop] at hc
      obtain ⟨_, hcl, hat⟩ := World.cells?_some hc
      obtain ⟨p, rfl⟩ := open_hop ht'
      exact ⟨p, hat⟩)
    refine ⟨l, ?_, ?_⟩
    · have h2 := rdK_new (w := w) (a := a) (cap := m) (k := 4) (l.map hpc) (by intro c hc; rw [List.mem_map] at hc; obtain ⟨p, _, rfl⟩ := hc; rfl) (by decide) (by rw [List.length_map]; exact hl) hm (fun i hi2 j hj => by
        rw [List.length_map] at hi2
        rw [List.getElem_map]
        exact hp i hi2 j hj)
      rw [List.length_map] at h2
      exact h2
    · have h3 := bulk_slice ((List.range l.length).map D) ((List.range (m - l.length)).map fun j => D (l.length + j))
      rw [List.length_map, List.length_range] at h3
      rw [hx]; exact h3
theorem open_lbs {fuel : Nat} {v : Value} {x : DataW H × List MemPlace} (h : DataW.trod enc Tryz.prog w base (fun _ => true) held fuel 25 [v] = some x) : ∃ l : List (Rf × Lb), LbsR w v l ∧ (∀ p ∈ l, p.1.length ≤ maxLen) ∧ (∀ p ∈ l, -9223372036854775808 ≤ p.2.1 ∧ p.2.1 ≤ 9223372036854775807) ∧ l.length ≤ Rows.uptoBulk x.1 := by
  rcases open_slice Tryz.underlying25 h with ⟨hcs, _⟩ | ⟨a, len, cap, m, n, D, Pl, hcs, hb, hl, hm, hmm, hx, hi⟩
  · obtain rfl : v = .slice none 0 0 := by simpa using hcs
    exact ⟨[], Rd.nil w 3, by simp, by simp, Nat.zero_le _⟩
  · obtain rfl : v = .slice (some a) len cap := by simpa using hcs
    obtain rfl : m = cap := hmm
    obtain ⟨l, rfl, hp⟩ := list_of (P := fun i (p : Rf × Lb) => (∀ j, j < 3 → w.cell? ((a.add (i * 3)).add j) = (lbc p)[j]?) ∧ p.1.length ≤ maxLen ∧ -9223372036854775808 ≤ p.2.1 ∧ p.2.1 ≤ 9223372036854775807) len (fun i hil => by
      obtain ⟨cs', hc, ht'⟩ := hi i (by omega)
      rw [cLabel] at hc
      obtain ⟨_, hcl, hat⟩ := World.cells?_some hc
      obtain ⟨p, rfl, h1⟩ := open_label ht'
      exact ⟨p, hat, h1⟩)
    refine ⟨l, ?_, fun p hpm => ?_, fun p hpm => ?_, ?_⟩
    · have h2 := rdK_new (w := w) (a := a) (cap := m) (k := 3) (l.map lbc) (by intro c hc; rw [List.mem_map] at hc; obtain ⟨p, _, rfl⟩ := hc; rfl) (by decide) (by rw [List.length_map]; exact hl) hm (fun i hi2 j hj => by
        rw [List.length_map] at hi2
        rw [List.getElem_map]
        exact (hp i hi2).1 j hj)
      rw [List.length_map] at h2
      exact h2
    · obtain ⟨i, hi2, rfl⟩ := List.getElem_of_mem hpm
      exact (hp i hi2).2.1
    · obtain ⟨i, hi2, rfl⟩ := List.getElem_of_mem hpm
      exact (hp i hi2).2.2
    · have h3 := bulk_slice ((List.range l.length).map D) ((List.range (m - l.length)).map fun j => D (l.length + j))
      rw [List.length_map, List.length_range] at h3
      rw [hx]; exact h3
/-- what a claim's cells hold -/
structure ClR (w : World) (cs : List Value) (a b : ByteArray) (hv : Value) (n : Int) (lv : Value) (hs : List Hp) (lb : List (Rf × Lb)) : Prop where
  cs : cs = [.string a, .string b, hv, .int .i64 n, lv]
  ha : a.size ≤ maxLen
  hb : b.size ≤ maxLen
  hh : RdH w hv hs
  hl : LbsR w lv lb
  fit : ∀ p ∈ lb, p.1.length ≤ maxLen
  bd : ∀ p ∈ lb, -9223372036854775808 ≤ p.2.1 ∧ p.2.1 ≤ 9223372036854775807
set_option maxRecDepth 100000 in
theorem open_claim {fuel : Nat} {cs : List Value} {x : DataW H × List MemPlace} (h : DataW.trod enc Tryz.prog w base (fun _ => true) held fuel 29 cs = some x) :
    ∃ (a b : ByteArray) (hv lv : Value) (n : Int) (hs : List Hp) (lb : List (Rf × Lb)), ClR w cs a b hv n lv hs lb ∧ hs.length + lb.length ≤ Rows.uptoBulk x.1 := by
  obtain ⟨ys, n, _, hx, hl, hyl, hf⟩ := DataW.trod_struct Tryz.underlying29 h
  rw [cClaim] at hl
  match cs, hl with
  | [c0, c1, c2, c3, c4], _ =>
    have h0 : DataW.trod enc Tryz.prog w base (fun _ => true) held n 9 (([c0, c1, c2, c3, c4].drop 0).take (Tryz.prog.cellsOf 9)) = ys[0]? := hf 0 _ rfl
    have h1 : DataW.trod enc Tryz.prog w base (fun _ => true) held n 9 (([c0, c1, c2, c3, c4].drop 1).take (Tryz.prog.cellsOf 9)) = ys[1]? := hf 1 _ rfl
    have h2 : DataW.trod enc Tryz.prog w base (fun _ => true) held n 27 (([c0, c1, c2, c3, c4].drop 2).take (Tryz.prog.cellsOf 27)) = ys[2]? := hf 2 _ rfl
    rw [cStringF] at h0 h1
    rw [cWay] at h2
    match ys, hyl with
    | [z0, z1, z2], _ =>
      obtain ⟨s, e0, _, hs⟩ := DataW.trod_string Tryz.underlying9 (show DataW.trod enc Tryz.prog w base (fun _ => true) held n 9 [c0] = some z0 from h0)
      obtain ⟨r, e1, _, hr⟩ := DataW.trod_string Tryz.underlying9 (show DataW.trod enc Tryz.prog w base (fun _ => true) held n 9 [c1] = some z1 from h1)
      obtain ⟨vs, n', _, hx2, _, hvl, hg⟩ := DataW.trod_struct Tryz.underlying27 (show DataW.trod enc Tryz.prog w base (fun _ => true) held n 27 [c2, c3, c4] = some z2 from h2)
      have g0 : DataW.trod enc Tryz.prog w base (fun _ => true) held n' 24 (([c2, c3, c4].drop 0).take (Tryz.prog.cellsOf 24)) = vs[0]? := hg 0 _ rfl
      have g1 : DataW.trod enc Tryz.prog w base (fun _ => true) held n' 2 (([c2, c3, c4].drop 1).take (Tryz.prog.cellsOf 2)) = vs[1]? := hg 1 _ rfl
      have g2 : DataW.trod enc Tryz.prog w base (fun _ => true) held n' 25 (([c2, c3, c4].drop 2).take (Tryz.prog.cellsOf 25)) = vs[2]? := hg 2 _ rfl
      rw [cHops] at g0
      rw [cI64F] at g1
      rw [cLabels] at g2
      match vs, hvl with
      | [y0, y1, y2], _ =>
        obtain ⟨hps, k0, k1⟩ := open_hps (show DataW.trod enc Tryz.prog w base (fun _ => true) held n' 24 [c2] = some y0 from g0)
        obtain ⟨yn, e3, _, _⟩ := DataW.trod_int Tryz.underlying2 (show DataW.trod enc Tryz.prog w base (fun _ => true) held n' 2 [c3] = some y1 from g1)
        obtain ⟨lbs, k2, k3, k4, k5⟩ := open_lbs (show DataW.trod enc Tryz.prog w base (fun _ => true) held n' 25 [c4] = some y2 from g2)
        obtain rfl : c0 = .string s := by simpa using e0
        obtain rfl : c1 = .string r := by simpa using e1
        obtain rfl : c3 = .int .i64 yn := by simpa using e3
        refine ⟨s, r, c2, c4, yn, hps, lbs, ⟨rfl, hs, hr, k0, k2, k3, k4⟩, ?_⟩
        have q1 : x.1 = .agg [z0.1, z1.1, z2.1] := by rw [hx]; rfl
        have q2 : z2.1 = .agg [y0.1, y1.1, y2.1] := by rw [hx2]; rfl
        rw [q1, q2]
        simp only [Rows.uptoBulk, Rows.uptoBulkAll]
        omega
end
end Go.Proofs.YtgnnblkpjankgaaGreatDoor
