/-
  Lists of fixes in memory; contracts: the fixes with an identifier, the first fix with a reference; on both sides.
-/
import Derived.Test.YtakgcdefbbgdaaaGreatDoorMG08
namespace Go.Proofs.YtakgcdefbbgdaaaGreatDoor
open Go.RowKit
set_option linter.unusedVariables false
set_option linter.unusedSimpArgs false

theorem infoFix : (Tryz.prog.info? 67).map (fun i => (i.zero, i.size, i.bytes)) = some (some (.agg #[.string ⟨#[]⟩, .string ⟨#[]⟩, .int .u8 0, .int .i64 0, .int .i64 0, .int .i64 0, .int .i64 0]), 7, 72) := by kernel_rfl
theorem fxcells_len (l : List Fx) : (fxcells l).length = l.length * 7 := by
  induction l with
  | nil => rfl
  | cons p l ih =>
    show (fxc p ++ fxcells l).length = _
    rw [List.length_append, ih, List.length_cons]
    show 7 + _ = _
    omega
theorem fxcells_snoc (l : List Fx) (p : Fx) : fxcells (l ++ [p]) = fxcells l ++ fxc p := by
  unfold fxcells; rw [List.flatMap_append]; simp
theorem fxcells_at (l : List Fx) : ∀ (k : Nat) (h : k < l.length) (j : Nat), j < 7 → (fxcells l)[k * 7 + j]? = (fxc l[k])[j]? := by
  induction l with
  | nil => intro k h; simp at h
  | cons p l ih =>
    intro k h j hj
    show (fxc p ++ fxcells l)[k * 7 + j]? = _
    have hl : (fxc p).length = 7 := rfl
    cases k with
    | zero => rw [Nat.zero_mul, Nat.zero_add, List.getElem?_append_left (by omega)]; rfl
    | succ k =>
      rw [List.getElem?_append_right (by omega), hl, show (k + 1) * 7 + j - 7 = k * 7 + j by omega]
      exact ih k (by simpa using h) j hj
/-- fixes in memory; their strings fit -/
def FxsR (w : World) (v : Value) (l : List Fx) : Prop := Rd w 7 v l.length (fxcells l)
theorem FxsR.below {w w' : World} {v : Value} {l : List Fx} (h : FxsR w v l) (hb : Below w.heap.size w w') : FxsR w' v l := Rd.below h hb
theorem FxsR.form {w : World} {v : Value} {l : List Fx} (h : FxsR w v l) : ∃ A c, v = .slice A l.length c ∧ l.length ≤ c ∧ c ≤ 9223372036854775807 := by
  obtain ⟨A, c, hv, hc, hm⟩ := Rd.form h
  unfold maxLen at hm
  exact ⟨A, c, hv, hc, by omega⟩
structure FxAt (w : World) (g o : Nat) (f : Fx) : Prop where
  c0 : w.cell? ⟨g, o, none⟩ = some (.string (sb f.id))
  c1 : w.cell? ⟨g, o + 1, none⟩ = some (.string (sb f.rg))
  c2 : w.cell? ⟨g, o + 2, none⟩ = some (.int .u8 (f.kd : Int))
  c3 : w.cell? ⟨g, o + 3, none⟩ = some (.int .i64 f.lat)
  c4 : w.cell? ⟨g, o + 4, none⟩ = some (.int .i64 f.lon)
  c5 : w.cell? ⟨g, o + 5, none⟩ = some (.int .i64 f.el)
  c6 : w.cell? ⟨g, o + 6, none⟩ = some (.int .i64 f.ra)
theorem FxsR.at_ {w : World} {v : Value} {l : List Fx} (h : FxsR w v l) {k : Nat} (hk : k < l.length) : ∃ g o c, v = .slice (some ⟨g, o, none⟩) l.length c ∧ g < w.heap.size ∧ FxAt w g (o + k * 7) l[k] := by
  obtain ⟨hl, A, c, hv, hc, hm, hr⟩ := h
  obtain ⟨g, o, rfl, hg, hx⟩ := hr (by omega)
  have key : ∀ j u, j < 7 → (fxc l[k])[j]? = some u → w.cell? ⟨g, o + k * 7 + j, none⟩ = some u := fun j u hj hu => by
    have := hx (k * 7 + j) u (by rw [fxcells_at l k hk j hj]; exact hu)
    rwa [← Nat.add_assoc] at this
  exact ⟨g, o, c, hv, hg, key 0 _ (by omega) rfl, key 1 _ (by omega) rfl, key 2 _ (by omega) rfl, key 3 _ (by omega) rfl, key 4 _ (by omega) rfl, key 5 _ (by omega) rfl, key 6 _ (by omega) rfl⟩
theorem FxAt.below {w w' : World} {g o : Nat} {f : Fx} (h : FxAt w g o f) (hg : g < w.heap.size) {B : Nat} (hb : Below B w w') (hB : g < B) : FxAt w' g o f := by
  have k : ∀ j, w'.cell? ⟨g, j, none⟩ = w.cell? ⟨g, j, none⟩ := fun j => hb.cell (p := ⟨g, j, none⟩) hB
  exact ⟨(k _).trans h.c0, (k _).trans h.c1, (k _).trans h.c2, (k _).trans h.c3, (k _).trans h.c4, (k _).trans h.c5, (k _).trans h.c6⟩
theorem str_eq' {l : List UInt8} {t : ByteArray} : ((sb l).toList == t.toList) = decide (l = bl t) := by rw [bl_toList, bl_toList, bl_sb, Bool.eq_iff_iff, beq_iff_eq, decide_eq_true_iff]
/-- the fixes with an identifier -/
def matchL (l : List Fx) (t : List UInt8) : List Fx := l.filter fun f => decide (f.id = t)
theorem match_step {l : List Fx} {k : Nat} (t : List UInt8) (h : k < l.length) : matchL (l.take (k + 1)) t = if l[k].id = t then matchL (l.take k) t ++ [l[k]] else matchL (l.take k) t := by
  unfold matchL
  rw [List.take_succ_eq_append_getElem h, List.filter_append]
  by_cases he : l[k].id = t
  · simp [he]
  · simp [he]
theorem match_len (l : List Fx) (t : List UInt8) (k : Nat) : (matchL (l.take k) t).length ≤ k := by
  unfold matchL
  exact Nat.le_trans (List.length_filter_le _ _) (List.length_take_le _ _)
/-- what an append of a fix does to what is owned -/
theorem fix_step {base : Nat} {w0 wr w' : World} {v v' : Value} {done : List Fx} {f : Fx} {o1 o2 : Obj} {n : Nat} (hn : n = done.length)
    (hlt : ∀ k, v.ownBlock = some k → base ≤ k ∧ k < wr.heap.size) (hb : Below base w0 wr) (hown' : w'.ownsRow base 67 7 v' (n + 1) (fxcells done ++ fxc f)) (hg : ((wr.alloc o1).alloc o2).grownBy w' v.ownBlock) (hB : base ≤ wr.heap.size) :
    w'.ownsRow base 67 7 v' (done ++ [f]).length (fxcells (done ++ [f])) ∧ Below base w0 w' := by
  subst hn
  refine ⟨?_, ((hb.alloc hB o1).alloc (by simp; omega) o2).grown hg (by simp; omega) (fun k hk => (hlt k hk).1)⟩
  rw [fxcells_snoc, List.length_append]
  exact hown'
def MatchPost (l : List Fx) (t : List UInt8) (w : World) (e : Ending) (w' : World) : Prop := ∃ v, e = .returned v ∧ FxsR w' v (matchL l t) ∧ Below w.heap.size w w'
def FewPost (l : List Fx) (w : World) (e : Ending) (w' : World) : Prop := ∃ v, e = .returned v ∧ w'.ownsRow w.heap.size 67 7 v l.length (fxcells l) ∧ Below w.heap.size w w'
/-- the strings of fixes are no longer than a machine holds -/
def SzL (l : List Fx) : Prop := ∀ f ∈ l, f.id.length ≤ 1000000000000000 ∧ f.rg.length ≤ 1000000000000000
theorem SzL.take {l : List Fx} (h : SzL l) (n : Nat) : SzL (l.take n) := fun f hf => h f (List.mem_of_mem_take hf)
theorem SzL.get {l : List Fx} (h : SzL l) {k : Nat} (hk : k < l.length) : l[k].id.length ≤ 1000000000000000 ∧ l[k].rg.length ≤ 1000000000000000 := h _ (List.getElem_mem hk)
def findL (l : List Fx) (t : List UInt8) : Option Fx := l.find? fun f => decide (fxRef f = t)
theorem find_miss {l : List Fx} {t : List UInt8} {k : Nat} (hk : k < l.length) (h : findL (l.take k) t = none) (he : fxRef l[k] ≠ t) : findL (l.take (k + 1)) t = none := by
  unfold findL at h ⊢
  rw [List.take_succ_eq_append_getElem hk, List.find?_append, h]
  simp [he]
theorem find_hit {l : List Fx} {t : List UInt8} {k : Nat} (hk : k < l.length) (h : findL (l.take k) t = none) (he : fxRef l[k] = t) : findL l t = some l[k] := by
  unfold findL at h ⊢
  have hl : l = l.take k ++ l[k] :: l.drop (k + 1) := by rw [List.getElem_cons_drop, List.take_append_drop]
  generalize l[k] = p at hl he ⊢
  rw [hl, List.find?_append, h]
  simp [he]
theorem find_self {l : List Fx} {x : Fx} (h : x ∈ l) : ∃ y, findL l (fxRef x) = some y ∧ fxRef y = fxRef x := by
  cases hf : findL l (fxRef x) with
  | none =>
    unfold findL at hf
    rw [List.find?_eq_none] at hf
    exact absurd (decide_eq_true rfl) (hf x h)
  | some y =>
    refine ⟨y, rfl, ?_⟩
    unfold findL at hf
    have := List.find?_some hf
    exact of_decide_eq_true this
theorem find_mem {l : List Fx} {t : List UInt8} {y : Fx} (h : findL l t = some y) : y ∈ l := List.mem_of_find?_eq_some h
def FindPost (o : Option Fx) (w : World) (e : Ending) (w' : World) : Prop :=
  e = .returned (.tuple #[.agg #[.string (sb (o.getD fx0).id), .string (sb (o.getD fx0).rg), .int .u8 ((o.getD fx0).kd : Int), .int .i64 (o.getD fx0).lat, .int .i64 (o.getD fx0).lon, .int .i64 (o.getD fx0).el, .int .i64 (o.getD fx0).ra], .bool o.isSome]) ∧ Below w.heap.size w w'
theorem FindPost.some {o : Option Fx} {w w' : World} {p : Fx} (h : o = some p) (hb : Below w.heap.size w w') :
    FindPost o w (.returned (.tuple #[.agg #[.string (sb p.id), .string (sb p.rg), .int .u8 (p.kd : Int), .int .i64 p.lat, .int .i64 p.lon, .int .i64 p.el, .int .i64 p.ra], .bool true])) w' := by subst h; exact ⟨rfl, hb⟩
theorem FindPost.none {o : Option Fx} {w w' : World} (h : o = none) (hb : Below w.heap.size w w') :
    FindPost o w (.returned (.tuple #[.agg #[.string ⟨#[]⟩, .string ⟨#[]⟩, .int .u8 0, .int .i64 0, .int .i64 0, .int .i64 0, .int .i64 0], .bool false])) w' := by subst h; exact ⟨rfl, hb⟩
def IdxPost (l : List Fx) (t : List UInt8) (w : World) (e : Ending) (w' : World) : Prop :=
  ∃ i : Int, e = .returned (.int .i64 i) ∧ ((i = -1 ∧ findL l t = none) ∨ ∃ (k : Nat) (h : k < l.length), i = k ∧ findL l t = some l[k]) ∧ Below w.heap.size w w'
end Go.Proofs.YtakgcdefbbgdaaaGreatDoor
