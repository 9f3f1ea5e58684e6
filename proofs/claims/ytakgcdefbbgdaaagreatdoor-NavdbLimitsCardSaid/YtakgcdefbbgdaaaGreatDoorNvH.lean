/-
  The third round of the compiler: its state in memory.
-/
import Derived.Test.YtakgcdefbbgdaaaGreatDoorNvU
import Derived.Test.YtakgcdefbbgdaaaGreatDoorWide
namespace Go.Proofs.YtakgcdefbbgdaaaGreatDoor
open Go.RowKit
set_option linter.unusedVariables false
set_option linter.unusedSimpArgs false
theorem aggEl (w : World) : (isAgg 77).run Tryz.prog w = .ok true w := by kernel_rfl
theorem sizeEl (w : World) : (Go.sizeOf 77).run Tryz.prog w = .ok 19 w := by kernel_rfl
theorem infoElS : (Tryz.prog.info? 77).map (·.size) = some 19 := by kernel_rfl
/-- an element whose slices are known as such -/
structure ElV (p : El × EV) : Prop where
  f : ∃ A c, p.2.fv = .slice A p.1.x.2.length c ∧ p.1.x.2.length ≤ c ∧ c ≤ 9223372036854775807
  ps : ∃ A c, p.2.pv = .slice A p.1.pts.length c ∧ p.1.pts.length ≤ c ∧ c ≤ 9223372036854775807
  v : ∃ A c, p.2.vv = .slice A p.1.vias.length c ∧ p.1.vias.length ≤ c ∧ c ≤ 9223372036854775807
theorem ElIn.vals {w0 w : World} {p : El × EV} (h : ElIn w0 w p) : ElV p := by
  refine ⟨fld_le h.f, ?_, ?_⟩
  · obtain ⟨A, c, h1, h2, h3⟩ := (h.ps.1).form
    unfold maxLen at h3
    exact ⟨A, c, h1, h2, by omega⟩
  · obtain ⟨A, c, h1, h2, h3⟩ := h.v.form
    unfold maxLen at h3
    exact ⟨A, c, h1, h2, by omega⟩
theorem elc_one {p : El × EV} (h : ElV p) : ∀ u ∈ elc p, u.oneCell' = true := by
  obtain ⟨⟨A, c, h1, _⟩, ⟨A2, c2, h2, _⟩, ⟨A3, c3, h3, _⟩⟩ := h
  unfold elc
  rw [h1, h2, h3]
  intro u hu
  simp only [List.mem_cons, List.not_mem_nil, or_false] at hu
  rcases hu with rfl | rfl | rfl | rfl | rfl | rfl | rfl | rfl | rfl | rfl | rfl | rfl | rfl | rfl | rfl | rfl | rfl | rfl | rfl <;> rfl
theorem ElAt.all {w : World} {g o : Nat} {p : El × EV} (h : ElAt w g o p) : ∀ j u, (elc p)[j]? = some u → w.cell? ⟨g, o + j, none⟩ = some u := by
  intro j u hu
  unfold elc at hu
  match j, hu with
  | 0, hu => cases hu; exact h.c0
  | 1, hu => cases hu; exact h.c1
  | 2, hu => cases hu; exact h.c2
  | 3, hu => cases hu; exact h.c3
  | 4, hu => cases hu; exact h.c4
  | 5, hu => cases hu; exact h.c5
  | 6, hu => cases hu; exact h.c6
  | 7, hu => cases hu; exact h.c7
  | 8, hu => cases hu; exact h.c8
  | 9, hu => cases hu; exact h.c9
  | 10, hu => cases hu; exact h.c10
  | 11, hu => cases hu; exact h.c11
  | 12, hu => cases hu; exact h.c12
  | 13, hu => cases hu; exact h.c13
  | 14, hu => cases hu; exact h.c14
  | 15, hu => cases hu; exact h.c15
  | 16, hu => cases hu; exact h.c16
  | 17, hu => cases hu; exact h.c17
  | 18, hu => cases hu; exact h.c18
  | j + 19, hu => simp at hu
/-- the state of the third round: both indexes, the names of airways -/
structure Th (w0 : World) (B : Nat) (lv : Value) (av : Value) (L : List (El × EV)) (w : World) (all : List Fx) (q5 q6 b1 b2 b3 c1 c2 c3 nb : Nat) (sc : Cp) (bv : Value) (bf : List Fx) (ns : List (List UInt8)) (wr : World) : Prop where
  cp : CpR w0 B lv sc bv av L wr
  ix : IxR b1 b2 b3 all.length (rfM all) (fun _ => none) (fun _ => none) wr
  jx : IxR c1 c2 c3 bf.length (rfM bf) (fun _ => none) (fun _ => none) wr
  nm : MapF elmB wr nb ns.length (nsM ns)
  x5 : Bx q5 #[.map (some b1), .map (some b2), .map (some b3)] 89 wr
  x6 : Bx q6 #[.map (some c1), .map (some c2), .map (some c3)] 89 wr
  fr : Frm (SB w0 B) w wr
/-- the blocks are apart -/
structure Apart (B b1 b2 b3 c1 c2 c3 nb : Nat) : Prop where
  e1 : b1 ≠ c1
  e2 : b2 ≠ c1
  e3 : b3 ≠ c1
  n1 : nb ≠ c1
  m1 : b1 ≠ nb
  m2 : b2 ≠ nb
  m3 : b3 ≠ nb
  k1 : c1 ≠ nb
  k2 : c2 ≠ nb
  k3 : c3 ≠ nb
  lc : B ≤ c1
  ln : B ≤ nb
section
variable {w0 : World} {B : Nat} {lv : Value} {av : Value} {L : List (El × EV)} {w : World} {all : List Fx} {q5 q6 b1 b2 b3 c1 c2 c3 nb : Nat} {sc : Cp} {bv : Value} {bf : List Fx} {ns : List (List UInt8)} {wr w' : World}
theorem Th.below (h : Th w0 B lv av L w all q5 q6 b1 b2 b3 c1 c2 c3 nb sc bv bf ns wr) (hb : Below wr.heap.size wr w') : Th w0 B lv av L w all q5 q6 b1 b2 b3 c1 c2 c3 nb sc bv bf ns w' :=
  ⟨h.cp.below hb, h.ix.below hb, h.jx.below hb, h.nm.below' hb, h.x5.via hb, h.x6.via hb, h.fr.trans (Frm.of_below hb)⟩
theorem Bx.bad {b : Nat} {cs : Array Value} {t : TypeId} (hx : Bx b cs t wr) (h : CpR w0 B lv sc bv av L wr) (hf : Frm (SBad w0 bv) wr w') (h1 : t ≠ 60) (h2 : t ≠ 39) : Bx b cs t w' := (hf.block b hx.lt (SBad.cells h hx h1 h2)).trans hx
theorem Th.fail {sc' : Cp} {bv' : Value} (h : Th w0 B lv av L w all q5 q6 b1 b2 b3 c1 c2 c3 nb sc bv bf ns wr) (hc : CpR w0 B lv sc' bv' av L w') (hf : Frm (SBad w0 bv) wr w') : Th w0 B lv av L w all q5 q6 b1 b2 b3 c1 c2 c3 nb sc' bv' bf ns w' :=
  ⟨hc, h.ix.frm hf (SBad.mapF h.cp h.ix.r) (SBad.mapF h.cp h.ix.a) (SBad.mapF h.cp h.ix.u), h.jx.frm hf (SBad.mapF h.cp h.jx.r) (SBad.mapF h.cp h.jx.a) (SBad.mapF h.cp h.jx.u), hf.mapF h.nm (SBad.mapF h.cp h.nm),
    h.x5.bad h.cp hf (by decide) (by decide), h.x6.bad h.cp hf (by decide) (by decide), h.fr.trans (SB.of_bad h.cp hf)⟩
theorem map_nocell {b : Nat} {β : Type} {e : Elm β} {n : Nat} {m : List UInt8 → Option β} (hm : MapF e wr b n m) {k : Nat} {cs : Array Value} {t : TypeId} {z : Nat × Nat} (hx : wr.heap[k]? = some (.cells cs t z)) : k ≠ b := by
  obtain ⟨D, ⟨es, clock, hbk, r⟩, _⟩ := hm
  intro e; rw [e, hbk] at hx; cases hx
theorem CpR.map {β : Type} {e : Elm β} {b n : Nat} {m : List UInt8 → Option β} (h : CpR w0 B lv sc bv av L wr) (hm : MapF e wr b n m) (hf : Frm (· = b) wr w') (hb : B ≤ b) : CpR w0 B lv sc bv av L w' := by
  have lo := h.lo
  exact h.frm hf (by omega) (fun k cur t z hh _ => map_nocell hm hh) (fun k hk => by omega)
theorem Th.add {f : Fx} (h : Th w0 B lv av L w all q5 q6 b1 b2 b3 c1 c2 c3 nb sc bv bf ns wr) (ap : Apart B b1 b2 b3 c1 c2 c3 nb) (hj : IxR c1 c2 c3 (bf.length + 1) (setK (rfM bf) (fxRef f) (some true)) (fun _ => none) (fun _ => none) w') (hf : Frm (· = c1) wr w') :
    Th w0 B lv av L w all q5 q6 b1 b2 b3 c1 c2 c3 nb sc bv (bf ++ [f]) ns w' := by
  refine ⟨h.cp.map h.jx.r hf ap.lc, h.ix.frm hf ap.e1 ap.e2 ap.e3, ?_, hf.mapF h.nm ap.n1, (hf.block q5 h.x5.lt (map_nocell h.jx.r h.x5)).trans h.x5, (hf.block q6 h.x6.lt (map_nocell h.jx.r h.x6)).trans h.x6, h.fr.trans (hf.mono fun k hk => .inr (by have := ap.lc; omega))⟩
  rw [rfM_snoc, List.length_append]; exact hj
theorem Th.name {x : List UInt8} (h : Th w0 B lv av L w all q5 q6 b1 b2 b3 c1 c2 c3 nb sc bv bf ns wr) (ap : Apart B b1 b2 b3 c1 c2 c3 nb) (hm : MapF elmB w' nb (ns.length + 1) (setK (nsM ns) ([65, 73, 82, 87, 65, 89, 32] ++ x) (some true))) (hg : wr.grownBy w' (some nb)) :
    Th w0 B lv av L w all q5 q6 b1 b2 b3 c1 c2 c3 nb sc bv bf (ns ++ [x]) w' := by
  have hf : Frm (· = nb) wr w' := Frm.grown hg rfl
  refine ⟨h.cp.map h.nm hf ap.ln, h.ix.frm hf ap.m1 ap.m2 ap.m3, h.jx.frm hf ap.k1 ap.k2 ap.k3, ?_, (hf.block q5 h.x5.lt (map_nocell h.nm h.x5)).trans h.x5, (hf.block q6 h.x6.lt (map_nocell h.nm h.x6)).trans h.x6, h.fr.trans (hf.mono fun k hk => .inr (by have := ap.ln; omega))⟩
  rw [nsM_snoc, List.length_append]; exact hm
end
theorem thP_all (all : List Fx) : ∀ (l : List Pt) (v : List Ln) (s : Cp), (thP all l v s).all = s.all
  | [], _, s => rfl
  | q :: r, [], s => rfl
  | q :: r, v :: vs, s => by
    unfold thP
    split
    · exact thP_all all r vs s
    · rw [thP_all all r vs]; exact fail_all _ _ _
theorem thP_bad (all : List Fx) : ∀ (l : List Pt) (v : List Ln) (s : Cp), (thP all l v s).bad.length ≤ s.bad.length + l.length
  | [], _, s => Nat.le_refl _
  | q :: r, [], s => Nat.le_add_right _ _
  | q :: r, v :: vs, s => by
    unfold thP
    rw [List.length_cons]
    split
    · have := thP_bad all r vs s; omega
    · have := thP_bad all r vs (s.fail v 6)
      have := fail_bad s v 6
      omega
theorem thP_at (all : List Fx) (s : Cp) {l : List Pt} {v : List Ln} {k : Nat} (h : k < l.length) (h2 : k < v.length) : thP all (l.drop k) (v.drop k) s = thP all (l.drop (k + 1)) (v.drop (k + 1)) (if l[k].ref ∈ all.map fxRef then s else s.fail v[k] 6) := by
  rw [List.drop_eq_getElem_cons h, List.drop_eq_getElem_cons h2]; rfl
theorem fail_hd (s : Cp) (x : Ln) (e : Int) : (s.fail x e).la = s.la ∧ (s.fail x e).lo = s.lo := by unfold Cp.fail; split <;> exact ⟨rfl, rfl⟩
theorem thP_hd (all : List Fx) : ∀ (l : List Pt) (v : List Ln) (s : Cp), (thP all l v s).la = s.la ∧ (thP all l v s).lo = s.lo
  | [], _, s => ⟨rfl, rfl⟩
  | q :: r, [], s => ⟨rfl, rfl⟩
  | q :: r, v :: vs, s => by
    unfold thP
    split
    · exact thP_hd all r vs s
    · have := thP_hd all r vs (s.fail v 6)
      have h2 := fail_hd s v 6
      exact ⟨this.1.trans h2.1, this.2.trans h2.2⟩
theorem thP_nil (all : List Fx) (v : List Ln) (s : Cp) : thP all [] v s = s := by cases v <;> rfl
theorem key_sb (nm : List UInt8) : (⟨#[65, 73, 82, 87, 65, 89, 32]⟩ : ByteArray) ++ sb nm = sb ([65, 73, 82, 87, 65, 89, 32] ++ nm) := by
  apply bl_inj; rw [bl_append, bl_sb, bl_sb]; rfl
end Go.Proofs.YtakgcdefbbgdaaaGreatDoor
