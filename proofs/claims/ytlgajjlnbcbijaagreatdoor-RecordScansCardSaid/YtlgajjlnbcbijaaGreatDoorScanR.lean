/-
  Scanners in memory, of both sides: note and take.
-/
import Derived.Test.YtlgajjlnbcbijaaGreatDoorScanL
import Derived.RegionTactic
import Derived.ChangeAlike
namespace Go.Proofs.YtlgajjlnbcbijaaGreatDoor
open Go.RowKit
set_option linter.unusedVariables false
set_option linter.unusedSimpArgs false

/-- fields in memory, in a block below g -/
def FsR (w : World) (g : Nat) (v : Value) (fs : List FldI) : Prop :=
  ∃ A c, v = .slice A fs.length c ∧ fs.length ≤ c ∧ c ≤ maxLen ∧ (∀ f ∈ fs, f.1.length ≤ maxLen) ∧
    (0 < fs.length → ∃ h o, A = some ⟨h, o, none⟩ ∧ h < g ∧ ∀ j u, (ficells fs)[j]? = some u → w.cell? ⟨h, o + j, none⟩ = some u)
/-- all that stood before stands, but for block g -/
def Off (g : Nat) (w w' : World) : Prop := w.grownBy w' (some g)
theorem Off.refl (g : Nat) (w : World) : Off g w w := ⟨rfl, rfl, rfl, Nat.le_refl _, fun _ _ _ => rfl⟩
theorem Off.trans {g : Nat} {a b c : World} (h : Off g a b) (k : Off g b c) : Off g a c :=
  ⟨k.os.trans h.os, k.tape.trans h.tape, k.output.trans h.output, Nat.le_trans h.size k.size, fun i hi hn => (k.block i (Nat.lt_of_lt_of_le hi h.size) hn).trans (h.block i hi hn)⟩
theorem Off.of_below {g : Nat} {w w' : World} (h : Below w.heap.size w w') : Off g w w' := ⟨h.os, h.tape, h.output, h.size, fun i hi _ => h.block i hi⟩
theorem Off.set {g : Nat} {w w' : World} (h : Off g w w') (j : Nat) (u : Value) : Off g w (w'.setCell ⟨g, j, none⟩ u) :=
  ⟨h.os, h.tape, h.output, by simpa using h.size, fun i hi hn => (heap_setCell_other w' ⟨g, j, none⟩ i u (fun e => hn (congrArg some e))).trans (h.block i hi hn)⟩
theorem Off.alloc {g : Nat} {w w' : World} (h : Off g w w') (o : Obj) : Off g w (w'.alloc o) := h.trans (Off.of_below ((Below.refl _ _).alloc (Nat.le_refl _) o))
theorem Off.drewN {g : Nat} {w w' : World} (h : Off g w w') (n : Nat) : Off g w (w'.drewN n) := h.trans (Off.of_below (below_drewN' (Below.refl _ _) n))
theorem Off.drew {g : Nat} {w w' : World} (h : Off g w w') : Off g w w'.drew := h.trans (Off.of_below (Below.refl _ _).drew)
theorem Off.setNew {g : Nat} {w w' : World} (h : Off g w w') {b : Nat} (hb : w.heap.size ≤ b) (j : Nat) (u : Value) : Off g w (w'.setCell ⟨b, j, none⟩ u) :=
  ⟨h.os, h.tape, h.output, by simpa using h.size, fun i hi hn => (heap_setCell_other w' ⟨b, j, none⟩ i u (fun e => by simp only at e; omega)).trans (h.block i hi hn)⟩
/-- blocks below B are as they were, where g is not below B -/
theorem Off.below {g B : Nat} {w0 w w' : World} (h : Off g w w') (hb : Below B w0 w) (hg : B ≤ g) (hB : B ≤ w.heap.size) : Below B w0 w' :=
  ⟨h.os.trans hb.os, h.tape.trans hb.tape, h.output.trans hb.output, Nat.le_trans hb.size h.size, fun k hk => (h.block k (Nat.lt_of_lt_of_le hk hB) (by intro e; injection e with e; omega)).trans (hb.block k hk)⟩
theorem Off.cell {g : Nat} {w w' : World} (h : Off g w w') {b o : Nat} (hb : b < w.heap.size) (hn : b ≠ g) : w'.cell? ⟨b, o, none⟩ = w.cell? ⟨b, o, none⟩ :=
  World.cell?_of_block (w := w) (a := ⟨b, o, none⟩) (h.block b hb (by intro e; injection e with e; exact hn e))
theorem Off.frozen {g : Nat} {w w' : World} (h : Off g w w') {b o : Nat} (hb : b < w.heap.size) (hn : b ≠ g) : w'.frozen? ⟨b, o, none⟩ = w.frozen? ⟨b, o, none⟩ :=
  World.frozen?_of_block (w := w) (a := ⟨b, o, none⟩) (h.block b hb (by intro e; injection e with e; exact hn e))
theorem FsR.keep {w w' : World} {g : Nat} {v : Value} {fs : List FldI} (h : FsR w g v fs) (hk : ∀ k, k < g → w'.heap[k]? = w.heap[k]?) : FsR w' g v fs := by
  obtain ⟨A, c, hv, hc, hm, hf, hr⟩ := h
  refine ⟨A, c, hv, hc, hm, hf, fun h0 => ?_⟩
  obtain ⟨b, o, hA, hb, hx⟩ := hr h0
  exact ⟨b, o, hA, hb, fun j u hu => (World.cell?_of_block (w := w) (a := ⟨b, o + j, none⟩) (hk b hb)).trans (hx j u hu)⟩
theorem FsR.off {w w' : World} {g : Nat} {v : Value} {fs : List FldI} (h : FsR w g v fs) (hg : g < w.heap.size) (ho : Off g w w') : FsR w' g v fs :=
  h.keep fun k hk => ho.block k (by omega) (by intro e; injection e with e; omega)
theorem FsR.at_ {w : World} {g : Nat} {v : Value} {fs : List FldI} (h : FsR w g v fs) {k : Nat} (hk : k < fs.length) :
    ∃ b o c, v = .slice (some ⟨b, o, none⟩) fs.length c ∧ b < g ∧ w.cell? ⟨b, o + k * 2, none⟩ = some (.string (sb (fld fs k).1)) ∧ w.cell? ⟨b, o + k * 2 + 1, none⟩ = some (.int .i64 (fld fs k).2) ∧ (fld fs k).1.length ≤ maxLen := by
  obtain ⟨A, c, hv, hc, hm, hf, hr⟩ := h
  obtain ⟨b, o, rfl, hb, hx⟩ := hr (by omega)
  have hfl : fld fs k = fs[k] := by unfold fld; rw [List.getD_eq_getElem?_getD, List.getElem?_eq_getElem hk]; rfl
  obtain ⟨h0, h1⟩ := ficells_at fs k hk
  rw [hfl]
  exact ⟨b, o, c, hv, hb, hx _ _ h0, by have := hx _ _ h1; rwa [← Nat.add_assoc] at this, hf _ (List.getElem_mem hk)⟩
def scC (s : Sc) (v : Value) : Array Value := #[.int .i64 s.num, v, .int .i64 (s.nx : Int), .int .i64 s.la, .int .i64 s.dl, .int .i64 s.dc, .int .i64 s.de]
def rscC (s : Sc) (v : Value) : Array Value := #[.int .i64 s.num, v, .int .i64 (s.nx : Int), .int .i64 s.la, .int .i64 s.dl, .int .i64 s.dc, .int .i64 s.de, .bool s.bad]
/-- a scanner in memory -/
def ScP (w : World) (g : Nat) (s : Sc) : Prop := s.nx ≤ s.fs.length ∧ ∃ v, w.heap[g]? = some (.cells (scC s v) 160 (0, 0)) ∧ FsR w g v s.fs
theorem ScP.lt {w : World} {g : Nat} {s : Sc} (h : ScP w g s) : g < w.heap.size := by
  obtain ⟨_, v, h, _⟩ := h
  exact (Array.getElem?_eq_some_iff.1 h).1
theorem ScP.keep {w w' : World} {g : Nat} {s : Sc} (h : ScP w g s) (hk : ∀ k, k ≤ g → w'.heap[k]? = w.heap[k]?) : ScP w' g s := by
  obtain ⟨h1, v, h2, h3⟩ := h
  exact ⟨h1, v, (hk g (Nat.le_refl _)).trans h2, h3.keep fun k hlt => hk k (Nat.le_of_lt hlt)⟩
theorem ScP.below {w w' : World} {g : Nat} {s : Sc} (h : ScP w g s) (hb : Below w.heap.size w w') : ScP w' g s :=
  h.keep fun k hk => hb.block k (Nat.lt_of_le_of_lt hk h.lt)
theorem ScP.setNew {w : World} {g : Nat} {s : Sc} (h : ScP w g s) {b j : Nat} (hb : g < b) (u : Value) : ScP (w.setCell ⟨b, j, none⟩ u) g s :=
  h.keep fun k hk => heap_setCell_other w ⟨b, j, none⟩ k u (fun e => by simp only at e; omega)
theorem ScP.drew {w : World} {g : Nat} {s : Sc} (h : ScP w g s) : ScP w.drew g s := h.below (Below.refl _ _).drew
theorem ScP.drewN {w : World} {g : Nat} {s : Sc} (h : ScP w g s) (n : Nat) : ScP (w.drewN n) g s := h.below (below_drewN' (Below.refl _ _) n)
theorem ScP.alloc {w : World} {g : Nat} {s : Sc} (h : ScP w g s) (o : Obj) : ScP (w.alloc o) g s := h.below ((Below.refl _ _).alloc (Nat.le_refl _) o)
/-- a scanner in memory -/
def ScQ (w : World) (g : Nat) (s : Sc) : Prop := s.nx ≤ s.fs.length ∧ ∃ v, w.heap[g]? = some (.cells (rscC s v) 162 (0, 0)) ∧ FsR w g v s.fs
theorem ScQ.lt {w : World} {g : Nat} {s : Sc} (h : ScQ w g s) : g < w.heap.size := by
  obtain ⟨_, v, h, _⟩ := h
  exact (Array.getElem?_eq_some_iff.1 h).1
theorem ScQ.keep {w w' : World} {g : Nat} {s : Sc} (h : ScQ w g s) (hk : ∀ k, k ≤ g → w'.heap[k]? = w.heap[k]?) : ScQ w' g s := by
  obtain ⟨h1, v, h2, h3⟩ := h
  exact ⟨h1, v, (hk g (Nat.le_refl _)).trans h2, h3.keep fun k hlt => hk k (Nat.le_of_lt hlt)⟩
theorem ScQ.below {w w' : World} {g : Nat} {s : Sc} (h : ScQ w g s) (hb : Below w.heap.size w w') : ScQ w' g s :=
  h.keep fun k hk => hb.block k (Nat.lt_of_le_of_lt hk h.lt)
theorem ScQ.setNew {w : World} {g : Nat} {s : Sc} (h : ScQ w g s) {b j : Nat} (hb : g < b) (u : Value) : ScQ (w.setCell ⟨b, j, none⟩ u) g s :=
  h.keep fun k hk => heap_setCell_other w ⟨b, j, none⟩ k u (fun e => by simp only at e; omega)
theorem ScQ.drew {w : World} {g : Nat} {s : Sc} (h : ScQ w g s) : ScQ w.drew g s := h.below (Below.refl _ _).drew
theorem ScQ.drewN {w : World} {g : Nat} {s : Sc} (h : ScQ w g s) (n : Nat) : ScQ (w.drewN n) g s := h.below (below_drewN' (Below.refl _ _) n)
theorem ScQ.alloc {w : World} {g : Nat} {s : Sc} (h : ScQ w g s) (o : Obj) : ScQ (w.alloc o) g s := h.below ((Below.refl _ _).alloc (Nat.le_refl _) o)
theorem scC_note {s : Sc} (h : s.bad = false) (c : Int) {e : Int} (he : e ≠ 0) (v : Value) : scC (s.note c e) v = (((scC s v).setIfInBounds 4 (.int .i64 s.num)).setIfInBounds 5 (.int .i64 c)).setIfInBounds 6 (.int .i64 e) := by
  rw [Sc.note_set h c he]; rfl
end Go.Proofs.YtlgajjlnbcbijaaGreatDoor
