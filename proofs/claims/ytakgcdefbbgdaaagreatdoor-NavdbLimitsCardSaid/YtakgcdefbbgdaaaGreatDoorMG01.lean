/-
  Several texts as one.
  Maps with string keys, as functions of the key: made, read, written, deleted from, ranged over.
  The laws of maps with string keys at their operations, for a walk.
-/
import Derived.Test.YtakgcdefbbgdaaaGreatDoorBase
import Derived.Maps.Own
import Derived.Maps.OwnOps
import Derived.Maps.Views
import Derived.Maps.OwnSet
import Derived.Maps.Range
import Derived.Maps.RangeWalk
import Derived.StringKeys
namespace Go.Proofs.YtakgcdefbbgdaaaGreatDoor
open Go.RowKit Go.Maps Go.ChangeMaps Go.WideMaps
set_option linter.unusedVariables false
set_option linter.unusedSimpArgs false

/-- how elements of a kind lie in a map -/
structure Elm (β : Type) where
  val : β → Value
  dat : β → DataW Unit
  rd : Value → Option (DataW Unit × List MemPlace)
  rd_mk : ∀ c, rd (val c) = some (dat c, [])
  inv : ∀ v y, rd v = some y → ∃ c, v = val c ∧ y = (dat c, [])
  inj : ∀ a b, dat a = dat b → a = b
section
variable {β : Type}
/-- block b is a map with string keys that says m -/
def MapF (e : Elm β) (w : World) (b n : Nat) (m : List UInt8 → Option β) : Prop :=
  ∃ D : DataW Unit, w.ownsMap Tryz.prog 9 e.rd b n D ∧
    ∀ x : List UInt8, (∀ c, m x = some c → Maps.has D (.string x) = true ∧ ∀ z, D.atKey (.string x) z = e.dat c) ∧ (m x = none → Maps.has D (.string x) = false)
theorem str_keyed : Keyed Tryz.prog 9 := string_keyed Tryz.underlying9
theorem MapF.made (e : Elm β) (w : World) : MapF e (w.alloc (.map #[] 0)) w.heap.size 0 (fun _ => none) :=
  ⟨.map [], World.ownsMap_made w _ _ _, fun x => ⟨fun c h => (by cases h), fun _ => rfl⟩⟩
theorem MapF.lt {e : Elm β} {w : World} {b n : Nat} {m : List UInt8 → Option β} (h : MapF e w b n m) : b < w.heap.size := by
  obtain ⟨D, h1, _⟩ := h; exact h1.lt
theorem MapF.mono {e : Elm β} {w : World} {b n n' : Nat} {m : List UInt8 → Option β} (h : MapF e w b n m) (hn : n ≤ n') : MapF e w b n' m := by
  obtain ⟨D, h1, h2⟩ := h; exact ⟨D, h1.mono hn, h2⟩
theorem MapF.kept {e : Elm β} {w w' : World} {b n : Nat} {m : List UInt8 → Option β} {row : Option Nat} (h : MapF e w b n m) (hg : w.grownBy w' row) (hne : some b ≠ row) : MapF e w' b n m := by
  obtain ⟨D, h1, h2⟩ := h
  exact ⟨D, h1.kept hg hne, h2⟩
theorem MapF.below {e : Elm β} {w w' : World} {b n : Nat} {m : List UInt8 → Option β} (h : MapF e w b n m) {B : Nat} (hb : Below B w w') (hB : b < B) : MapF e w' b n m := by
  obtain ⟨D, ⟨es, clock, hbk, r⟩, h2⟩ := h
  exact ⟨D, ⟨es, clock, (hb.block b hB).trans hbk, r⟩, h2⟩
theorem MapF.below' {e : Elm β} {w w' : World} {b n : Nat} {m : List UInt8 → Option β} (h : MapF e w b n m) (hb : Below w.heap.size w w') : MapF e w' b n m := h.below hb h.lt
theorem MapF.drew {e : Elm β} {w : World} {b n : Nat} {m : List UInt8 → Option β} (h : MapF e w b n m) : MapF e w.drew b n m := h
theorem MapF.drewN {e : Elm β} {w : World} {b n : Nat} {m : List UInt8 → Option β} (h : MapF e w b n m) (k : Nat) : MapF e (w.drewN k) b n m := h.below' (below_drewN' (Below.refl _ _) k)
theorem MapF.setCell {e : Elm β} {w : World} {b n : Nat} {m : List UInt8 → Option β} (h : MapF e w b n m) {a : Addr} (ha : b ≠ a.block) (u : Value) : MapF e (w.setCell a u) b n m := by
  obtain ⟨D, h1, h2⟩ := h
  exact ⟨D, h1.setCell ha u, h2⟩
theorem MapF.alloc {e : Elm β} {w : World} {b n : Nat} {m : List UInt8 → Option β} (h : MapF e w b n m) (o : Obj) : MapF e (w.alloc o) b n m := h.below' ((Below.refl _ _).alloc (Nat.le_refl _) o)
variable {t et : TypeId}
theorem MapF.at_ {e : Elm β} {w : World} {b n : Nat} {m : List UInt8 → Option β} {D : DataW Unit} (h2 : ∀ x : List UInt8, (∀ c, m x = some c → Maps.has D (.string x) = true ∧ ∀ z, D.atKey (.string x) z = e.dat c) ∧ (m x = none → Maps.has D (.string x) = false)) (x : List UInt8) (z : β) :
    D.atKey (.string x) (e.dat z) = e.dat ((m x).getD z) ∧ Maps.has D (.string x) = (m x).isSome := by
  cases hm : m x with
  | none => exact ⟨Maps.atKey_of_not_has ((h2 x).2 hm) _, (h2 x).2 hm⟩
  | some c => exact ⟨((h2 x).1 c hm).2 _, ((h2 x).1 c hm).1⟩
/-- 'm[k]' -/
theorem MapF.get {e : Elm β} {w : World} {b n : Nat} {m : List UInt8 → Option β} (h : MapF e w b n m) (ht : Tryz.prog.underlying t = some (.map 9 et)) (z : β) (hz : (zeroValue et).run Tryz.prog w = .ok (e.val z) w) {s : ByteArray} (hs : s.size ≤ maxLen) :
    (Instr.lookup t (.map (some b)) (.string s) false).run Tryz.prog w = .ok (e.val ((m (bl s)).getD z)) w := by
  obtain ⟨D, h1, h2⟩ := h
  obtain ⟨v, ps, hrun, hv⟩ := h1.lookup str_keyed ht hz (e.rd_mk z) (keyOf_string_mk Tryz.underlying9 hs)
  have e1 : D.atKey (.string s.data.toList) (e.dat z) = e.dat ((m (bl s)).getD z) := (MapF.at_ (w := w) (b := b) (n := n) h2 (bl s) z).1
  rw [e1] at hv
  obtain ⟨c, rfl, hc⟩ := e.inv _ _ hv
  simp only [Prod.mk.injEq] at hc
  rw [hrun, e.inj _ _ hc.1]
/-- 'v, ok := m[k]' -/
theorem MapF.getOk {e : Elm β} {w : World} {b n : Nat} {m : List UInt8 → Option β} (h : MapF e w b n m) (ht : Tryz.prog.underlying t = some (.map 9 et)) (z : β) (hz : (zeroValue et).run Tryz.prog w = .ok (e.val z) w) {s : ByteArray} (hs : s.size ≤ maxLen) :
    (Instr.lookup t (.map (some b)) (.string s) true).run Tryz.prog w = .ok (.tuple #[e.val ((m (bl s)).getD z), .bool (m (bl s)).isSome]) w := by
  obtain ⟨D, h1, h2⟩ := h
  obtain ⟨v, ps, hrun, hv⟩ := h1.look_ok str_keyed ht hz (e.rd_mk z) (keyOf_string_mk Tryz.underlying9 hs)
  obtain ⟨e1, e2⟩ := MapF.at_ (w := w) (b := b) (n := n) h2 (bl s) z
  change D.atKey (.string s.data.toList) (e.dat z) = _ at e1
  change Maps.has D (.string s.data.toList) = _ at e2
  rw [e1] at hv
  obtain ⟨c, rfl, hc⟩ := e.inv _ _ hv
  simp only [Prod.mk.injEq] at hc
  rw [hrun, e.inj _ _ hc.1, e2]
/-- a function changed at a key -/
def setK (m : List UInt8 → Option β) (x : List UInt8) (c : Option β) : List UInt8 → Option β := fun v => if v = x then c else m v
theorem setK_same (m : List UInt8 → Option β) (x : List UInt8) (c : Option β) : setK m x c x = c := by unfold setK; rw [if_pos rfl]
theorem setK_other (m : List UInt8 → Option β) {x v : List UInt8} (c : Option β) (h : v ≠ x) : setK m x c v = m v := by unfold setK; rw [if_neg h]
/-- 'm[k] = v' -/
theorem MapF.put {e : Elm β} {w : World} {b n : Nat} {m : List UInt8 → Option β} (h : MapF e w b n m) (ht : Tryz.prog.underlying t = some (.map 9 et)) (hn : n < maxLen) {s : ByteArray} (hs : s.size ≤ maxLen) (c : β) :
    ∃ w', (Instr.mapUpdate t (.map (some b)) (.string s) (e.val c)).run Tryz.prog w = .ok () w' ∧ MapF e w' b (n + 1) (setK m (bl s) (some c)) ∧ w.grownBy w' (some b) := by
  obtain ⟨D, h1, h2⟩ := h
  obtain ⟨w', hrun, h3, hg⟩ := h1.update str_keyed ht hn (keyOf_string_mk Tryz.underlying9 hs) (e.rd_mk c)
  refine ⟨w', hrun, ⟨_, h3, fun x => ?_⟩, hg⟩
  by_cases hx : x = bl s
  · subst hx
    rw [setK_same]
    refine ⟨fun c' hc => ?_, fun hc => (by cases hc)⟩
    simp only [Option.some.injEq] at hc
    subst hc
    exact ⟨has_put_same h1.isMap (by trivial) _, fun z => atKey_put_same h1.isMap (by trivial) _ z⟩
  · rw [setK_other _ _ hx]
    have hne : (Lit.string x) ≠ Lit.string s.data.toList := fun e => by injection e with e; exact hx e
    obtain ⟨h4, h5⟩ := h2 x
    refine ⟨fun c' hc => ⟨?_, fun z => ?_⟩, fun hc => ?_⟩
    · rw [has_put_other hne]; exact (h4 c' hc).1
    · rw [atKey_put_other hne]; exact (h4 c' hc).2 z
    · rw [has_put_other hne]; exact h5 hc
theorem MapF.del_data {e : Elm β} {m : List UInt8 → Option β} {D : DataW Unit} (h2 : ∀ x : List UInt8, (∀ c, m x = some c → Maps.has D (.string x) = true ∧ ∀ z, D.atKey (.string x) z = e.dat c) ∧ (m x = none → Maps.has D (.string x) = false)) (y : List UInt8) (x : List UInt8) :
    (∀ c, setK m y none x = some c → Maps.has (D.del (.string y)) (.string x) = true ∧ ∀ z, (D.del (.string y)).atKey (.string x) z = e.dat c) ∧ (setK m y none x = none → Maps.has (D.del (.string y)) (.string x) = false) := by
  by_cases hx : x = y
  · subst hx
    rw [setK_same]
    exact ⟨fun c h => (by cases h), fun _ => has_del_same⟩
  · rw [setK_other _ _ hx]
    have hne : (Lit.string x) ≠ Lit.string y := fun e => by injection e with e; exact hx e
    obtain ⟨h4, h5⟩ := h2 x
    refine ⟨fun c' hc => ⟨?_, fun z => ?_⟩, fun hc => ?_⟩
    · rw [has_del_other hne]; exact (h4 c' hc).1
    · rw [atKey_del_other hne]; exact (h4 c' hc).2 z
    · rw [has_del_other hne]; exact h5 hc
/-- 'delete(m, k)' -/
theorem MapF.del {e : Elm β} {w : World} {b n : Nat} {m : List UInt8 → Option β} (h : MapF e w b n m) (ht : Tryz.prog.underlying t = some (.map 9 et)) {s : ByteArray} (hs : s.size ≤ maxLen) (ty : TypeId) :
    ∃ w', (Builtin.delete_ #[t, 9] ty #[.map (some b), .string s]).run Tryz.prog w = .ok (.tuple #[]) w' ∧ MapF e w' b n (setK m (bl s) none) ∧ w.grownBy w' (some b) := by
  obtain ⟨D, h1, h2⟩ := h
  obtain ⟨w', hrun, h3, hg⟩ := h1.drop str_keyed ht (keyOf_string_mk Tryz.underlying9 hs) ty
  exact ⟨w', hrun, ⟨_, h3, MapF.del_data h2 (bl s)⟩, hg.grown⟩
/-- 'len(m)': nothing, or some key -/
theorem MapF.len {e : Elm β} {w : World} {b n : Nat} {m : List UInt8 → Option β} (h : MapF e w b n m) (ht : Tryz.prog.underlying t = some (.map 9 et)) (ty : TypeId) :
    ∃ k : Nat, (Builtin.len_ #[t] ty #[.map (some b)]).run Tryz.prog w = .ok (.int .i64 (k : Int)) w ∧ (k = 0 → ∀ x, m x = none) ∧ (0 < k → ∃ x c, m x = some c) := by
  obtain ⟨D, h1, h2⟩ := h
  refine ⟨Maps.size D, h1.len ht ty, fun h0 x => ?_, fun h0 => ?_⟩
  · cases hm : m x with
    | none => rfl
    | some c =>
      exfalso
      have h3 := ((h2 x).1 c hm).1
      obtain ⟨es, rfl, _, _⟩ := h1.entries str_keyed
      rw [size_eq] at h0
      rw [List.eq_nil_of_length_eq_zero h0] at h3
      cases h3
  · obtain ⟨es, clock, hb, F, hs, rfl⟩ := h1
    rw [size_eq, length_sorted] at h0
    simp only [List.length_map] at h0
    obtain ⟨x, hx⟩ := List.exists_mem_of_length_pos h0
    obtain ⟨y, hy⟩ := F.reads x hx
    have hk := Go.WideElems.rd_key hy
    obtain ⟨s, _, hs2, _⟩ := string_of_keyOf Tryz.underlying9 hk
    have hh : Maps.has (DataW.map ((es.toList.map (Go.WideElems.rg Tryz.prog 9 e.rd)).foldr DataW.insert [])) (.string (bl s)) = true := by
      rw [has_eq, List.any_eq_true]
      refine ⟨Go.WideElems.rg Tryz.prog 9 e.rd x, mem_sorted.2 (List.mem_map.2 ⟨x, hx, rfl⟩), ?_⟩
      rw [Go.WideElems.rg_of hy, hs2]
      exact WideAt.sameKey_self (by trivial)
    cases hm : m (bl s) with
    | none => rw [(h2 (bl s)).2 hm] at hh; cases hh
    | some c => exact ⟨_, c, hm⟩
/-- 'for .. := range m' under way: lf says which keys are still to come -/
def RngF (e : Elm β) (w : World) (b r n : Nat) (m : List UInt8 → Option β) (lf : List UInt8 → Bool) (cnt : Nat) : Prop :=
  ∃ (D : DataW Unit) (left : Lit → Bool), w.ranges Tryz.prog 9 e.rd b r n D left cnt ∧
    (∀ x : List UInt8, (∀ c, m x = some c → Maps.has D (.string x) = true ∧ ∀ z, D.atKey (.string x) z = e.dat c) ∧ (m x = none → Maps.has D (.string x) = false)) ∧ ∀ x, left (.string x) = lf x
theorem RngF.map {e : Elm β} {w : World} {b r n : Nat} {m : List UInt8 → Option β} {lf : List UInt8 → Bool} {cnt : Nat} (h : RngF e w b r n m lf cnt) : MapF e w b n m := by
  obtain ⟨D, left, h1, h2, _⟩ := h
  exact ⟨D, h1.owns, h2⟩
theorem RngF.kept {e : Elm β} {w w' : World} {b r n : Nat} {m : List UInt8 → Option β} {lf : List UInt8 → Bool} {cnt : Nat} {row : Option Nat} (h : RngF e w b r n m lf cnt) (hg : w.grownBy w' row) (hb : some b ≠ row) (hr : some r ≠ row) : RngF e w' b r n m lf cnt := by
  obtain ⟨D, left, h1, h2⟩ := h
  exact ⟨D, left, h1.kept hg hb hr, h2⟩
theorem RngF.lt {e : Elm β} {w : World} {b r n : Nat} {m : List UInt8 → Option β} {lf : List UInt8 → Bool} {cnt : Nat} (h : RngF e w b r n m lf cnt) : r < w.heap.size ∧ b < w.heap.size := by
  obtain ⟨D, left, h1, _⟩ := h
  exact ⟨h1.lt, h1.owns.lt⟩
theorem RngF.below {e : Elm β} {w w' : World} {b r n : Nat} {m : List UInt8 → Option β} {lf : List UInt8 → Bool} {cnt : Nat} (h : RngF e w b r n m lf cnt) {B : Nat} (hb : Below B w w') (hB : b < B) (hR : r < B) : RngF e w' b r n m lf cnt := by
  obtain ⟨D, left, ⟨es, clock, since, seen, c0, h1, h2, h3, h4, h5, h6⟩, h7⟩ := h
  exact ⟨D, left, ⟨es, clock, since, seen, c0, (hb.block b hB).trans h1, h2, h3, h4, (hb.block r hR).trans h5, h6⟩, h7⟩
theorem MapF.range {e : Elm β} {w : World} {b n : Nat} {m : List UInt8 → Option β} (h : MapF e w b n m) (ht : Tryz.prog.underlying t = some (.map 9 et)) :
    ∃ w' cnt, (Instr.range t (.map (some b))).run Tryz.prog w = .ok (.pointer (some ⟨w.heap.size, 0, none⟩)) w' ∧ RngF e w' b w.heap.size n m (fun x => (m x).isSome) cnt ∧ w.grownBy w' none ∧ w'.heap.size = w.heap.size + 1 := by
  obtain ⟨D, h1, h2⟩ := h
  obtain ⟨w', hrun, h3, h4, h5⟩ := h1.range str_keyed ht
  refine ⟨w', _, hrun, ⟨D, _, h3, h2, fun x => ?_⟩, h4, h5⟩
  cases hm : m x with
  | none => show _ = (m x).isSome; rw [hm]; exact (h2 x).2 hm
  | some c => show _ = (m x).isSome; rw [hm]; exact ((h2 x).1 c hm).1
/-- the step: nothing is left, or a key that is still to come -/
theorem RngF.next {e : Elm β} {w : World} {b r n : Nat} {m : List UInt8 → Option β} {lf : List UInt8 → Bool} {cnt : Nat} (h : RngF e w b r n m lf cnt) (ty : TypeId) :
    (cnt = 0 ∧ (∀ x, lf x = false) ∧ (Instr.next (.pointer (some ⟨r, 0, none⟩)) false ty).run Tryz.prog w = .ok (.tuple #[.bool false]) w) ∨
    ∃ (s : ByteArray) (c : β) (w' : World) (cnt' : Nat), s.size ≤ maxLen ∧ lf (bl s) = true ∧ m (bl s) = some c ∧ (Instr.next (.pointer (some ⟨r, 0, none⟩)) false ty).run Tryz.prog w = .ok (.tuple #[.bool true, .string s, e.val c]) w' ∧
      (Instr.entry (.pointer (some ⟨r, 0, none⟩))).run Tryz.prog w' = .ok (.tuple #[.string s, e.val c]) w' ∧ RngF e w' b r n m (fun x => lf x && !decide (x = bl s)) cnt' ∧ cnt' < cnt ∧ w.grownBy w' (some r) ∧ w'.heap.size = w.heap.size := by
  obtain ⟨D, left, h1, h2, h3⟩ := h
  rcases h1.next str_keyed ty with ⟨h0, hl, hrun⟩ | ⟨key, v, kl, y, w', cnt', hkey, hlk, hv, hat, hrun, hrg, hlt, hgr, hsz, hen⟩
  · exact .inl ⟨h0, fun x => by rw [← h3]; exact hl _, hrun⟩
  · obtain ⟨s, rfl, rfl, hs⟩ := string_of_keyOf Tryz.underlying9 hkey
    obtain ⟨c, rfl, rfl⟩ := e.inv v y hv
    have hh : Maps.has D (.string (bl s)) = true := by
      refine has_true_of_atKey (y := e.dat c) fun z => ?_
      exact hat z
    have hm : m (bl s) = some c := by
      cases hm : m (bl s) with
      | none => rw [(h2 (bl s)).2 hm] at hh; cases hh
      | some c' =>
        have h5 := ((h2 (bl s)).1 c' hm).2 (e.dat c)
        have h6 : D.atKey (.string (bl s)) (e.dat c) = e.dat c := hat (e.dat c)
        rw [h5] at h6
        rw [e.inj _ _ h6]
    refine .inr ⟨s, c, w', cnt', hs, by rw [← h3]; exact hlk, hm, hrun, hen, ⟨D, _, hrg, h2, fun x => ?_⟩, hlt, hgr, hsz⟩
    show (left (.string x) && !(Lit.string x).sameKey (.string s.data.toList)) = _
    have h7 : (Lit.string x).sameKey (.string s.data.toList) = decide (x = bl s) := by
      by_cases e1 : x = bl s
      · rw [decide_eq_true e1, e1]
        exact WideAt.sameKey_self (by trivial)
      · rw [decide_eq_false e1]
        exact sameKey_ne (fun e => by injection e with e; exact e1 e)
    rw [h3 x, h7]
end
end Go.Proofs.YtakgcdefbbgdaaaGreatDoor
namespace Go.Proofs.YtakgcdefbbgdaaaGreatDoor
open Go.RowKit Go.Maps
set_option linter.unusedVariables false
set_option linter.unusedSimpArgs false
section
variable {β : Type} {e : Elm β} (w : World) {ops : Array Oper} {rest : List Oper} {o : Oper} {a : Act} {Q : Exit → Act → World → Prop}
theorem wpList_putF (hg : o.guard = none) (m x v : Operand) (t : TypeId) (hop : o.op = Op.mapUpdate t m x v) (et : TypeId) (ht : Tryz.prog.underlying t = some (.map 9 et)) (b n : Nat) (mm : List UInt8 → Option β)
    (hm : a.eval m = .map (some b)) (h : MapF e w b n mm) (hn : n < maxLen) (s : ByteArray) (c : β) (hx : a.eval x = .string s) (hv : a.eval v = e.val c) (hs : s.size ≤ maxLen)
    (hK : ∀ w', MapF e w' b (n + 1) (setK mm (bl s) (some c)) → w.grownBy w' (some b) → wpList Tryz.prog ops Q rest (a.put o.dst undef) w') :
    wpList Tryz.prog ops Q (o :: rest) a w := by
  refine wpList_plain hg fun K' hK' => ?_
  obtain ⟨w', hrun, r1, r2⟩ := h.put ht hn hs c
  unfold Oper.wp
  simp [execOp, hop, hm, hx, hv, hrun, Result.andThen]
  exact hK' _ _ (hK w' r1 r2)
theorem wpList_insertF (hg : o.guard = none) (m x v : Operand) (t : TypeId) (hop : o.op = Op.insert t m x v) (et : TypeId) (ht : Tryz.prog.underlying t = some (.map 9 et)) (b n : Nat) (mm : List UInt8 → Option β)
    (hm : a.eval m = .map (some b)) (h : MapF e w b n mm) (hn : n < maxLen) (s : ByteArray) (c : β) (hx : a.eval x = .string s) (hv : a.eval v = e.val c) (hs : s.size ≤ maxLen)
    (hK : ∀ w', MapF e w' b (n + 1) (setK mm (bl s) (some c)) → w.grownBy w' (some b) → wpList Tryz.prog ops Q rest (a.put o.dst undef) w') :
    wpList Tryz.prog ops Q (o :: rest) a w := by
  refine wpList_plain hg fun K' hK' => ?_
  obtain ⟨w', hrun, r1, r2⟩ := h.put ht hn hs c
  unfold Oper.wp
  simp [execOp, hop, hm, hx, hv, hrun, Result.andThen]
  exact hK' _ _ (hK w' r1 r2)
theorem wpList_getF (hg : o.guard = none) (m x : Operand) (t : TypeId) (hop : o.op = Op.lookup t m x false) (et : TypeId) (ht : Tryz.prog.underlying t = some (.map 9 et)) (z : β) (hz : (zeroValue et).run Tryz.prog w = .ok (e.val z) w) (b n : Nat) (mm : List UInt8 → Option β)
    (hm : a.eval m = .map (some b)) (h : MapF e w b n mm) (s : ByteArray) (hx : a.eval x = .string s) (hs : s.size ≤ maxLen)
    (hK : wpList Tryz.prog ops Q rest (a.put o.dst (e.val ((mm (bl s)).getD z))) w) :
    wpList Tryz.prog ops Q (o :: rest) a w := by
  refine wpList_plain hg fun K' hK' => ?_
  have hrun := h.get ht z hz hs
  unfold Oper.wp
  simp [execOp, hop, hm, hx, hrun, Result.andThen]
  exact hK' _ _ hK
theorem wpList_getOkF (hg : o.guard = none) (m x : Operand) (t : TypeId) (hop : o.op = Op.lookup t m x true) (et : TypeId) (ht : Tryz.prog.underlying t = some (.map 9 et)) (z : β) (hz : (zeroValue et).run Tryz.prog w = .ok (e.val z) w) (b n : Nat) (mm : List UInt8 → Option β)
    (hm : a.eval m = .map (some b)) (h : MapF e w b n mm) (s : ByteArray) (hx : a.eval x = .string s) (hs : s.size ≤ maxLen)
    (hK : wpList Tryz.prog ops Q rest (a.put o.dst (.tuple #[e.val ((mm (bl s)).getD z), .bool (mm (bl s)).isSome])) w) :
    wpList Tryz.prog ops Q (o :: rest) a w := by
  refine wpList_plain hg fun K' hK' => ?_
  have hrun := h.getOk ht z hz hs
  unfold Oper.wp
  simp [execOp, hop, hm, hx, hrun, Result.andThen]
  exact hK' _ _ hK
theorem wpList_delF (hg : o.guard = none) (m x : Operand) (t : TypeId) (hop : o.op = Op.call { callee := Callee.builtin Builtin.delete, args := #[m, x], argTypes := #[t, 9] })
    (et : TypeId) (ht : Tryz.prog.underlying t = some (.map 9 et)) (b n : Nat) (mm : List UInt8 → Option β)
    (hm : a.eval m = .map (some b)) (h : MapF e w b n mm) (s : ByteArray) (hx : a.eval x = .string s) (hs : s.size ≤ maxLen)
    (hK : ∀ w', MapF e w' b n (setK mm (bl s) none) → w.grownBy w' (some b) → wpList Tryz.prog ops Q rest (a.put o.dst (.tuple #[])) w') :
    wpList Tryz.prog ops Q (o :: rest) a w := by
  refine wpList_plain hg fun K' hK' => ?_
  obtain ⟨w', hrun, r1, r2⟩ := h.del ht hs o.type
  unfold Oper.wp
  simp [execOp, hop, resolve, invoke, builtin, hm, hx, hrun, Result.andThen]
  exact hK' _ _ (hK w' r1 r2)
theorem wpList_lenF (hg : o.guard = none) (m : Operand) (t : TypeId) (hop : o.op = Op.call { callee := Callee.builtin Builtin.len, args := #[m], argTypes := #[t] })
    (et : TypeId) (ht : Tryz.prog.underlying t = some (.map 9 et)) (b n : Nat) (mm : List UInt8 → Option β)
    (hm : a.eval m = .map (some b)) (h : MapF e w b n mm)
    (hK : ∀ k : Nat, (k = 0 → ∀ x, mm x = none) → (0 < k → ∃ x c, mm x = some c) → wpList Tryz.prog ops Q rest (a.put o.dst (.int .i64 (k : Int))) w) :
    wpList Tryz.prog ops Q (o :: rest) a w := by
  refine wpList_plain hg fun K' hK' => ?_
  obtain ⟨k, hrun, r1, r2⟩ := h.len ht o.type
  unfold Oper.wp
  simp [execOp, hop, resolve, invoke, builtin, hm, hrun, Result.andThen]
  exact hK' _ _ (hK k r1 r2)
theorem wpList_rangeF (hg : o.guard = none) (m : Operand) (t : TypeId) (hop : o.op = Op.range t m) (et : TypeId) (ht : Tryz.prog.underlying t = some (.map 9 et)) (b n : Nat) (mm : List UInt8 → Option β)
    (hm : a.eval m = .map (some b)) (h : MapF e w b n mm)
    (hK : ∀ w' cnt, RngF e w' b w.heap.size n mm (fun x => (mm x).isSome) cnt → w.grownBy w' none → w'.heap.size = w.heap.size + 1 → wpList Tryz.prog ops Q rest (a.put o.dst (.pointer (some ⟨w.heap.size, 0, none⟩))) w') :
    wpList Tryz.prog ops Q (o :: rest) a w := by
  refine wpList_plain hg fun K' hK' => ?_
  obtain ⟨w', cnt, hrun, r1, r2, r3⟩ := h.range ht
  unfold Oper.wp
  simp [execOp, hop, hm, hrun, Result.andThen]
  exact hK' _ _ (hK w' cnt r1 r2 r3)
theorem wpList_nextF (hg : o.guard = none) (it : Operand) (hop : o.op = Op.next it false) (b r n : Nat) (mm : List UInt8 → Option β) (lf : List UInt8 → Bool) (cnt : Nat)
    (hit : a.eval it = .pointer (some ⟨r, 0, none⟩)) (h : RngF e w b r n mm lf cnt)
    (hDone : cnt = 0 → (∀ x, lf x = false) → wpList Tryz.prog ops Q rest (a.put o.dst (.tuple #[.bool false])) w)
    (hMore : ∀ (s : ByteArray) (c : β) (w' : World) (cnt' : Nat), s.size ≤ maxLen → lf (bl s) = true → mm (bl s) = some c → (Instr.entry (.pointer (some ⟨r, 0, none⟩))).run Tryz.prog w' = .ok (.tuple #[.string s, e.val c]) w' →
      RngF e w' b r n mm (fun x => lf x && !decide (x = bl s)) cnt' → cnt' < cnt → w.grownBy w' (some r) → w'.heap.size = w.heap.size → wpList Tryz.prog ops Q rest (a.put o.dst (.tuple #[.bool true, .string s, e.val c])) w') :
    wpList Tryz.prog ops Q (o :: rest) a w := by
  refine wpList_plain hg fun K' hK' => ?_
  unfold Oper.wp
  rcases h.next o.type with ⟨h0, hl, hrun⟩ | ⟨s, c, w', cnt', hs, hl, hm, hrun, hen, hrg, hlt, hgr, hsz⟩
  · simp [execOp, hop, hit, hrun, Result.andThen]
    exact hK' _ _ (hDone h0 hl)
  · simp [execOp, hop, hit, hrun, Result.andThen]
    exact hK' _ _ (hMore s c w' cnt' hs hl hm hen hrg hlt hgr hsz)
end
end Go.Proofs.YtakgcdefbbgdaaaGreatDoor
