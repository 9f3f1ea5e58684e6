/-
  The third round of the compiler: the words; elements in memory.
-/
import Derived.Test.YtakgcdefbbgdaaaGreatDoorNvT
namespace Go.Proofs.YtakgcdefbbgdaaaGreatDoor
open Go.RowKit
set_option linter.unusedVariables false
set_option linter.unusedSimpArgs false
def thP (all : List Fx) : List Pt → List Ln → Cp → Cp
  | q :: r, v :: vs, s => thP all r vs (if q.ref ∈ all.map fxRef then s else s.fail v 6)
  | _, _, s => s
def thE (nf : Nat) (f : Fx) (bf : List Fx) : Int := if 400 < nf then 3 else if fxRef f ∈ bf.map fxRef then 7 else 0
def thA (na : Nat) (nm : List UInt8) (ns : List (List UInt8)) : Int := if 60 < na then 3 else if nm ∈ ns then 7 else 0
def thGo (all : List Fx) (nf na : Nat) (bf : List Fx) (ns : List (List UInt8)) (s : Cp) : List El → Cp
  | [] => s
  | p :: r => if p.kd = 102 then thGo all (nf + 1) na (bf ++ [p.fx]) ns (s.fail p.x (thE (nf + 1) p.fx bf)) r
    else thGo all nf (na + 1) bf (ns ++ [p.nm]) (thP all p.pts p.vias (s.fail p.x (thA (na + 1) p.nm ns))) r
def fixesOf (l : List El) : List Fx := (l.filter fun p => decide (p.kd = 102)).map (·.fx)
theorem fixesOf_take {l : List El} {k : Nat} (h : k < l.length) : fixesOf (l.take (k + 1)) = if l[k].kd = 102 then fixesOf (l.take k) ++ [l[k].fx] else fixesOf (l.take k) := by
  unfold fixesOf
  rw [List.take_succ_eq_append_getElem h, List.filter_append]
  by_cases he : l[k].kd = 102
  · simp [he]
  · simp [he]
theorem fixesOf_len (l : List El) : (fixesOf l).length ≤ l.length := by unfold fixesOf; rw [List.length_map]; exact List.length_filter_le _ _
theorem fail_all (s : Cp) (x : Ln) (e : Int) : (s.fail x e).all = s.all := by unfold Cp.fail; split <;> rfl
theorem fail_bad (s : Cp) (x : Ln) (e : Int) : (s.fail x e).bad.length ≤ s.bad.length + 1 := by unfold Cp.fail; split <;> simp
/-- an element that the third round takes -/
structure ElOk (p : El) : Prop where
  kd : p.kd = 102 ∨ p.kd = 97
  fx : p.kd = 102 → AtO p.fx
  pv : p.pts.length ≤ p.vias.length
  vf : ∀ v ∈ p.vias, 0 < v.2.length
  vl : p.vias.length ≤ 1000
theorem thGo_at (all : List Fx) (nf na : Nat) (bf : List Fx) (ns : List (List UInt8)) (s : Cp) {l : List El} {k : Nat} (h : k < l.length) :
    thGo all nf na bf ns s (l.drop k) = if l[k].kd = 102 then thGo all (nf + 1) na (bf ++ [l[k].fx]) ns (s.fail l[k].x (thE (nf + 1) l[k].fx bf)) (l.drop (k + 1))
      else thGo all nf (na + 1) bf (ns ++ [l[k].nm]) (thP all l[k].pts l[k].vias (s.fail l[k].x (thA (na + 1) l[k].nm ns))) (l.drop (k + 1)) := by
  rw [List.drop_eq_getElem_cons h]; rfl
/-- the names of airways, as a map -/
def nsM (ns : List (List UInt8)) : List UInt8 → Option Bool := fun r => if r ∈ ns.map ([65, 73, 82, 87, 65, 89, 32] ++ ·) then some true else none
theorem nsM_nil : nsM [] = fun _ => none := by funext r; simp [nsM]
theorem nsM_snoc (ns : List (List UInt8)) (x : List UInt8) : nsM (ns ++ [x]) = setK (nsM ns) ([65, 73, 82, 87, 65, 89, 32] ++ x) (some true) := by
  funext r
  unfold setK nsM
  by_cases h : r = [65, 73, 82, 87, 65, 89, 32] ++ x
  · rw [if_pos h, if_pos (by rw [h]; simp)]
  · rw [if_neg h]
    by_cases h2 : r ∈ ns.map ([65, 73, 82, 87, 65, 89, 32] ++ ·)
    · rw [if_pos h2, if_pos (by rw [List.map_append, List.mem_append]; exact .inl h2)]
    · rw [if_neg h2, if_neg (by rw [List.map_append, List.mem_append]; rintro (h3 | h3); exact h2 h3; exact h (by simpa using h3))]
theorem nsM_getD (ns : List (List UInt8)) (x : List UInt8) : (nsM ns ([65, 73, 82, 87, 65, 89, 32] ++ x)).getD false = decide (x ∈ ns) := by
  unfold nsM
  have e : ([65, 73, 82, 87, 65, 89, 32] ++ x ∈ ns.map ([65, 73, 82, 87, 65, 89, 32] ++ ·)) ↔ x ∈ ns := by
    rw [List.mem_map]
    constructor
    · rintro ⟨y, hy, h⟩; rw [List.append_cancel_left h] at hy; exact hy
    · intro h; exact ⟨x, h, rfl⟩
  by_cases h : x ∈ ns
  · rw [if_pos (e.2 h), decide_eq_true h]; rfl
  · rw [if_neg (fun h2 => h (e.1 h2)), decide_eq_false h]; rfl
/-- the cells of an element -/
structure ElAt (w : World) (g o : Nat) (p : El × EV) : Prop where
  c0 : w.cell? ⟨g, o, none⟩ = some (.int .u8 (p.1.kd : Int))
  c1 : w.cell? ⟨g, o + 1, none⟩ = some (.int .i64 p.1.x.1)
  c2 : w.cell? ⟨g, o + 2, none⟩ = some p.2.fv
  c3 : w.cell? ⟨g, o + 3, none⟩ = some (.string (sb p.1.fx.id))
  c4 : w.cell? ⟨g, o + 4, none⟩ = some (.string (sb p.1.fx.rg))
  c5 : w.cell? ⟨g, o + 5, none⟩ = some (.int .u8 (p.1.fx.kd : Int))
  c6 : w.cell? ⟨g, o + 6, none⟩ = some (.int .i64 p.1.fx.lat)
  c7 : w.cell? ⟨g, o + 7, none⟩ = some (.int .i64 p.1.fx.lon)
  c8 : w.cell? ⟨g, o + 8, none⟩ = some (.int .i64 p.1.fx.el)
  c9 : w.cell? ⟨g, o + 9, none⟩ = some (.int .i64 p.1.fx.ra)
  c10 : w.cell? ⟨g, o + 10, none⟩ = some (.string (sb p.1.nm))
  c11 : w.cell? ⟨g, o + 11, none⟩ = some p.2.pv
  c12 : w.cell? ⟨g, o + 12, none⟩ = some p.2.vv
  c13 : w.cell? ⟨g, o + 13, none⟩ = some (.string ⟨#[]⟩)
  c14 : w.cell? ⟨g, o + 14, none⟩ = some (.string ⟨#[]⟩)
  c15 : w.cell? ⟨g, o + 15, none⟩ = some (.int .u8 0)
  c16 : w.cell? ⟨g, o + 16, none⟩ = some (.slice none 0 0)
  c17 : w.cell? ⟨g, o + 17, none⟩ = some (.slice none 0 0)
  c18 : w.cell? ⟨g, o + 18, none⟩ = some (.slice none 0 0)
theorem CpR.at_ {w0 : World} {B : Nat} {lv : Value} {s : Cp} {bv av : Value} {L : List (El × EV)} {w : World} (h : CpR w0 B lv s bv av L w) {k : Nat} (hk : k < s.all.length) :
    ∃ g o c p, av = .slice (some ⟨g, o, none⟩) s.all.length c ∧ g < w.heap.size ∧ p ∈ L ∧ p.1 = s.all[k] ∧ ElAt w g (o + k * 19) p := by
  have hl : L.length = s.all.length := by rw [← h.eq, List.length_map]
  have hkL : k < L.length := by omega
  obtain ⟨⟨hln, A, c, hv, hc, hm, hr⟩, _⟩ := h.all
  obtain ⟨g, o, rfl, hg, hx⟩ := hr (by omega)
  have key : ∀ j u, j < 19 → (elc L[k])[j]? = some u → w.cell? ⟨g, o + k * 19 + j, none⟩ = some u := fun j u hj hu => by
    have := hx (k * 19 + j) u (by rw [elcells_at L k hkL j hj]; exact hu)
    rwa [← Nat.add_assoc] at this
  have he : L[k].1 = s.all[k] := by
    have h1 : (L.map (·.1))[k]? = s.all[k]? := by rw [h.eq]
    rw [List.getElem?_map, List.getElem?_eq_getElem hkL, List.getElem?_eq_getElem hk] at h1
    exact Option.some.inj h1
  exact ⟨g, o, c, L[k], hv, hg, List.getElem_mem hkL, he, key 0 _ (by omega) rfl, key 1 _ (by omega) rfl, key 2 _ (by omega) rfl, key 3 _ (by omega) rfl, key 4 _ (by omega) rfl, key 5 _ (by omega) rfl, key 6 _ (by omega) rfl, key 7 _ (by omega) rfl, key 8 _ (by omega) rfl, key 9 _ (by omega) rfl,
    key 10 _ (by omega) rfl, key 11 _ (by omega) rfl, key 12 _ (by omega) rfl, key 13 _ (by omega) rfl, key 14 _ (by omega) rfl, key 15 _ (by omega) rfl, key 16 _ (by omega) rfl, key 17 _ (by omega) rfl, key 18 _ (by omega) rfl⟩
/-- an element's box -/
def ElBox (w : World) (b : Nat) (p : El × EV) : Prop := Bx b (elc p).toArray 77 w
theorem ElBox.cells {w : World} {b : Nat} {p : El × EV} (h : ElBox w b p) : ElAt w b 0 p :=
  ⟨Bx.cell h 0 rfl, Bx.cell h 1 rfl, Bx.cell h 2 rfl, Bx.cell h 3 rfl, Bx.cell h 4 rfl, Bx.cell h 5 rfl, Bx.cell h 6 rfl, Bx.cell h 7 rfl, Bx.cell h 8 rfl, Bx.cell h 9 rfl, Bx.cell h 10 rfl, Bx.cell h 11 rfl, Bx.cell h 12 rfl, Bx.cell h 13 rfl, Bx.cell h 14 rfl, Bx.cell h 15 rfl, Bx.cell h 16 rfl, Bx.cell h 17 rfl, Bx.cell h 18 rfl⟩
theorem CpR.rebase {w0 : World} {B B' : Nat} {lv : Value} {s : Cp} {av : Value} {L : List (El × EV)} {w : World} (h : CpR w0 B lv s (.slice none 0 0) av L w) (h1 : w0.heap.size < B') (h2 : B' ≤ w.heap.size) : CpR w0 B' lv s (.slice none 0 0) av L w := by
  refine ⟨h.bx, ?_, h.all, h.eq, h.be, h.el, h1, h2⟩
  obtain ⟨hl, ⟨hv, hn⟩ | ⟨g, cap, cur, hv, _⟩⟩ := h.bad
  · exact ⟨hl, .inl ⟨hv, hn⟩⟩
  · cases hv
end Go.Proofs.YtakgcdefbbgdaaaGreatDoor
