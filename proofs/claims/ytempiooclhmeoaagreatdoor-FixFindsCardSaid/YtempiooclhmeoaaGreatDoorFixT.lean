/-
  The fix of a record: what both sides take of it, and the memory that they take it in.
-/
import Derived.Test.YtempiooclhmeoaaGreatDoorFixK
import Derived.Test.YtempiooclhmeoaaGreatDoorScanS
namespace Go.Proofs.YtempiooclhmeoaaGreatDoor
open Go.RowKit
set_option linter.unusedVariables false
set_option linter.unusedSimpArgs false

/-! ### what is taken -/
def tkKd (s : Sc) : Nat := (s.tv (-1) (fun t => wordAt kindWords t 0) + 1).toNat
def tkNm (s : Sc) (er : List UInt8 → Int) : Sc := s.take.note s.take.la (er s.text)
def tkEl (s : Sc) (k : Nat) : Sc := if elevB k then s.tk (fun t => pAltE (altSpec t)) else s
def elV (s : Sc) (k : Nat) : Int := if elevB k then s.tv 0 (fun t => pAltN (altSpec t)) else 0
def raV (s : Sc) (k : Nat) : Int := if navB k then s.tv 0 (fun t => distN (distSpec t)) else 0
def tkDs (s : Sc) : Sc := s.tk (fun t => distE (distSpec t))
def tkRa (s : Sc) (k : Nat) : Sc := if navB k then (if raV s k = 0 then (tkDs s).note (tkDs s).la 2 else tkDs s) else s
def tk2 (s : Sc) : Sc := tkNm (s.tk (wordE kindWords)) (fun t => identE t (tkKd s))
def tk3 (s : Sc) : Sc := tkNm (tk2 s) (fun t => locE t (tkKd s))
def tk4 (s : Sc) : Sc := (tk3 s).tk posPErr
def tk5 (s : Sc) : Sc := tkEl (tk4 s) (tkKd s)
def tk6 (s : Sc) : Sc := tkRa (tk5 s) (tkKd s)
def tkFx (s : Sc) : Fx := ⟨(s.tk (wordE kindWords)).text, (tk2 s).text, tkKd s, (tk3 s).tv 0 posPLat, (tk3 s).tv 0 posPLon, elV (tk4 s) (tkKd s), raV (tk5 s) (tkKd s)⟩
/-- the fix that is returned -/
def tkOut (s : Sc) : Fx := if (tk6 s).endB then fx0 else tkFx s
theorem Sc.tk_fs (s : Sc) (er : List UInt8 → Int) : (s.tk er).fs = s.fs := by
  unfold Sc.tk; split
  · rw [Sc.note_fs, Sc.take_fs]
  · exact Sc.take_fs s
theorem tkNm_fs (s : Sc) (er : List UInt8 → Int) : (tkNm s er).fs = s.fs := by unfold tkNm; rw [Sc.note_fs, Sc.take_fs]
theorem tkEl_fs (s : Sc) (k : Nat) : (tkEl s k).fs = s.fs := by unfold tkEl; split; exact Sc.tk_fs s _; rfl
theorem Sc.text_le {s : Sc} {N : Nat} (h : ∀ f ∈ s.fs, f.1.length ≤ N) : s.text.length ≤ N := by
  unfold Sc.text
  split
  · rename_i hg
    have hl := (Sc.got_iff.1 hg).2
    unfold fld
    rw [List.getD_eq_getElem?_getD, List.getElem?_eq_getElem hl]
    exact h _ (List.getElem_mem hl)
  · exact Nat.zero_le _
theorem wordAt_bd (ws : List (List UInt8)) (t : List UInt8) : ∀ n : Nat, wordAt ws t n = -1 ∨ ((n : Int) ≤ wordAt ws t n ∧ wordAt ws t n < n + ws.length) := by
  induction ws with
  | nil => intro n; exact .inl rfl
  | cons w ws ih =>
    intro n
    unfold wordAt
    split
    · right; rw [List.length_cons]; omega
    · rcases ih (n + 1) with h | h
      · exact .inl h
      · right; rw [List.length_cons]; omega
theorem tkKd_eq (s : Sc) : s.tv (-1) (fun t => wordAt kindWords t 0) + 1 = (tkKd s : Int) ∧ tkKd s ≤ 6 := by
  have h : s.tv (-1) (fun t => wordAt kindWords t 0) = -1 ∨ (0 ≤ s.tv (-1) (fun t => wordAt kindWords t 0) ∧ s.tv (-1) (fun t => wordAt kindWords t 0) < 6) := by
    unfold Sc.tv
    split
    · have := wordAt_bd kindWords s.text 0
      have hl : kindWords.length = 6 := rfl
      rw [hl] at this
      show wordAt kindWords s.text 0 = -1 ∨ (0 ≤ wordAt kindWords s.text 0 ∧ wordAt kindWords s.text 0 < 6)
      omega
    · exact .inl rfl
  unfold tkKd
  omega
theorem distN_nonneg (o : Option Int) (h : ∀ v, o = some v → 0 ≤ v) : 0 ≤ distN o := by
  unfold distN
  cases o with
  | none => simp
  | some v => simp only []; split; exact h v rfl; simp
theorem distSpec_nonneg (l : List UInt8) : ∀ v, distSpec l = some v → 0 ≤ v := by
  intro v h
  unfold distSpec distOf at h
  split at h
  · injection h with h; omega
  · cases h
theorem raV_nonneg (s : Sc) (k : Nat) : 0 ≤ raV s k := by
  unfold raV Sc.tv
  split
  · split
    · exact distN_nonneg _ (distSpec_nonneg _)
    · simp
  · simp
/-! ### the memory -/
def DgBox (w : World) (b : Nat) : Prop := w.heap[b]? = some (.cells #[.int .i64 0, .int .i64 0, .int .i64 0] 46 (0, 0))
structure TkR (P : World → Nat → Sc → Prop) (w0 : World) (g bf : Nat) (s : Sc) (f : Fx) (w : World) : Prop where
  sc : P w g s
  bx : FxBox w bf f
  r1 : FxBox w (w0.heap.size + 1) fx0
  r2 : DgBox w (w0.heap.size + 2)
  gb : g < bf
  lo : w0.heap.size + 3 ≤ g
  be : Below w0.heap.size w0 w
section
variable {P : World → Nat → Sc → Prop} {w0 w w' : World} {g bf : Nat} {s s' : Sc} {f : Fx}
theorem lt_heap {w : World} {b : Nat} {o : Obj} (h : w.heap[b]? = some o) : b < w.heap.size := (Array.getElem?_eq_some_iff.1 h).1
theorem TkR.call (h : TkR P w0 g bf s f w) (hs : P w' g s') (ho : Off g w w') : TkR P w0 g bf s' f w' := by
  have l1 := lt_heap h.bx
  have l2 := lt_heap h.r1
  have l3 := lt_heap h.r2
  have gb := h.gb
  have lo := h.lo
  exact ⟨hs, (ho.block bf l1 (by intro e; injection e with e; omega)).trans h.bx, (ho.block _ l2 (by intro e; injection e with e; omega)).trans h.r1, (ho.block _ l3 (by intro e; injection e with e; omega)).trans h.r2, gb, lo, ho.below h.be (by omega) (by omega)⟩
theorem TkR.cells (h : TkR P w0 g bf s f w) : FxCells w bf (sb f.id) (sb f.rg) f.kd f.lat f.lon f.el f.ra := h.bx.cells
theorem TkR.free (h : TkR P w0 g bf s f w) (j : Nat) : w.frozen? ⟨bf, j, none⟩ = false := frozen_of_row w bf j _ _ h.bx
theorem TkR.lt (h : TkR P w0 g bf s f w) : bf < w.heap.size := lt_heap h.bx
end
theorem TkR.pset {w0 w : World} {g bf : Nat} {s : Sc} {f f' : Fx} (h : TkR ScP w0 g bf s f w) {w' : World} (hx : FxBox w' bf f') (ho : ∀ k, k ≠ bf → w'.heap[k]? = w.heap[k]?) (hb : Below w0.heap.size w0 w') : TkR ScP w0 g bf s f' w' := by
  have gb := h.gb
  have lo := h.lo
  exact ⟨h.sc.keep fun k hk => ho k (by omega), hx, (ho _ (by omega)).trans h.r1, (ho _ (by omega)).trans h.r2, gb, lo, hb⟩
theorem TkR.pid {w0 w : World} {g bf : Nat} {s : Sc} {f : Fx} (h : TkR ScP w0 g bf s f w) (l : List UInt8) : TkR ScP w0 g bf s { f with id := l } (w.setCell ⟨bf, 0, none⟩ (.string (sb l))) :=
  h.pset (heap_setCell_same w bf 0 _ _ _ h.bx) (fun k hk => heap_setCell_other w ⟨bf, 0, none⟩ k _ (fun e => hk (by simpa using e))) (h.be.setCell (by have := h.gb; have := h.lo; simp; omega) _)
theorem TkR.prg {w0 w : World} {g bf : Nat} {s : Sc} {f : Fx} (h : TkR ScP w0 g bf s f w) (l : List UInt8) : TkR ScP w0 g bf s { f with rg := l } (w.setCell ⟨bf, 1, none⟩ (.string (sb l))) :=
  h.pset (heap_setCell_same w bf 1 _ _ _ h.bx) (fun k hk => heap_setCell_other w ⟨bf, 1, none⟩ k _ (fun e => hk (by simpa using e))) (h.be.setCell (by have := h.gb; have := h.lo; simp; omega) _)
theorem TkR.plat {w0 w : World} {g bf : Nat} {s : Sc} {f : Fx} (h : TkR ScP w0 g bf s f w) (x : Int) : TkR ScP w0 g bf s { f with lat := x } (w.setCell ⟨bf, 3, none⟩ (.int .i64 x)) :=
  h.pset (heap_setCell_same w bf 3 _ _ _ h.bx) (fun k hk => heap_setCell_other w ⟨bf, 3, none⟩ k _ (fun e => hk (by simpa using e))) (h.be.setCell (by have := h.gb; have := h.lo; simp; omega) _)
theorem TkR.plon {w0 w : World} {g bf : Nat} {s : Sc} {f : Fx} (h : TkR ScP w0 g bf s f w) (x : Int) : TkR ScP w0 g bf s { f with lon := x } (w.setCell ⟨bf, 4, none⟩ (.int .i64 x)) :=
  h.pset (heap_setCell_same w bf 4 _ _ _ h.bx) (fun k hk => heap_setCell_other w ⟨bf, 4, none⟩ k _ (fun e => hk (by simpa using e))) (h.be.setCell (by have := h.gb; have := h.lo; simp; omega) _)
theorem TkR.pel {w0 w : World} {g bf : Nat} {s : Sc} {f : Fx} (h : TkR ScP w0 g bf s f w) (x : Int) : TkR ScP w0 g bf s { f with el := x } (w.setCell ⟨bf, 5, none⟩ (.int .i64 x)) :=
  h.pset (heap_setCell_same w bf 5 _ _ _ h.bx) (fun k hk => heap_setCell_other w ⟨bf, 5, none⟩ k _ (fun e => hk (by simpa using e))) (h.be.setCell (by have := h.gb; have := h.lo; simp; omega) _)
theorem TkR.pra {w0 w : World} {g bf : Nat} {s : Sc} {f : Fx} (h : TkR ScP w0 g bf s f w) (x : Int) : TkR ScP w0 g bf s { f with ra := x } (w.setCell ⟨bf, 6, none⟩ (.int .i64 x)) :=
  h.pset (heap_setCell_same w bf 6 _ _ _ h.bx) (fun k hk => heap_setCell_other w ⟨bf, 6, none⟩ k _ (fun e => hk (by simpa using e))) (h.be.setCell (by have := h.gb; have := h.lo; simp; omega) _)
theorem TkR.qset {w0 w : World} {g bf : Nat} {s : Sc} {f f' : Fx} (h : TkR ScQ w0 g bf s f w) {w' : World} (hx : FxBox w' bf f') (ho : ∀ k, k ≠ bf → w'.heap[k]? = w.heap[k]?) (hb : Below w0.heap.size w0 w') : TkR ScQ w0 g bf s f' w' := by
  have gb := h.gb
  have lo := h.lo
  exact ⟨h.sc.keep fun k hk => ho k (by omega), hx, (ho _ (by omega)).trans h.r1, (ho _ (by omega)).trans h.r2, gb, lo, hb⟩
theorem TkR.qid {w0 w : World} {g bf : Nat} {s : Sc} {f : Fx} (h : TkR ScQ w0 g bf s f w) (l : List UInt8) : TkR ScQ w0 g bf s { f with id := l } (w.setCell ⟨bf, 0, none⟩ (.string (sb l))) :=
  h.qset (heap_setCell_same w bf 0 _ _ _ h.bx) (fun k hk => heap_setCell_other w ⟨bf, 0, none⟩ k _ (fun e => hk (by simpa using e))) (h.be.setCell (by have := h.gb; have := h.lo; simp; omega) _)
theorem TkR.qrg {w0 w : World} {g bf : Nat} {s : Sc} {f : Fx} (h : TkR ScQ w0 g bf s f w) (l : List UInt8) : TkR ScQ w0 g bf s { f with rg := l } (w.setCell ⟨bf, 1, none⟩ (.string (sb l))) :=
  h.qset (heap_setCell_same w bf 1 _ _ _ h.bx) (fun k hk => heap_setCell_other w ⟨bf, 1, none⟩ k _ (fun e => hk (by simpa using e))) (h.be.setCell (by have := h.gb; have := h.lo; simp; omega) _)
theorem TkR.qlat {w0 w : World} {g bf : Nat} {s : Sc} {f : Fx} (h : TkR ScQ w0 g bf s f w) (x : Int) : TkR ScQ w0 g bf s { f with lat := x } (w.setCell ⟨bf, 3, none⟩ (.int .i64 x)) :=
  h.qset (heap_setCell_same w bf 3 _ _ _ h.bx) (fun k hk => heap_setCell_other w ⟨bf, 3, none⟩ k _ (fun e => hk (by simpa using e))) (h.be.setCell (by have := h.gb; have := h.lo; simp; omega) _)
theorem TkR.qlon {w0 w : World} {g bf : Nat} {s : Sc} {f : Fx} (h : TkR ScQ w0 g bf s f w) (x : Int) : TkR ScQ w0 g bf s { f with lon := x } (w.setCell ⟨bf, 4, none⟩ (.int .i64 x)) :=
  h.qset (heap_setCell_same w bf 4 _ _ _ h.bx) (fun k hk => heap_setCell_other w ⟨bf, 4, none⟩ k _ (fun e => hk (by simpa using e))) (h.be.setCell (by have := h.gb; have := h.lo; simp; omega) _)
theorem TkR.qel {w0 w : World} {g bf : Nat} {s : Sc} {f : Fx} (h : TkR ScQ w0 g bf s f w) (x : Int) : TkR ScQ w0 g bf s { f with el := x } (w.setCell ⟨bf, 5, none⟩ (.int .i64 x)) :=
  h.qset (heap_setCell_same w bf 5 _ _ _ h.bx) (fun k hk => heap_setCell_other w ⟨bf, 5, none⟩ k _ (fun e => hk (by simpa using e))) (h.be.setCell (by have := h.gb; have := h.lo; simp; omega) _)
theorem TkR.qra {w0 w : World} {g bf : Nat} {s : Sc} {f : Fx} (h : TkR ScQ w0 g bf s f w) (x : Int) : TkR ScQ w0 g bf s { f with ra := x } (w.setCell ⟨bf, 6, none⟩ (.int .i64 x)) :=
  h.qset (heap_setCell_same w bf 6 _ _ _ h.bx) (fun k hk => heap_setCell_other w ⟨bf, 6, none⟩ k _ (fun e => hk (by simpa using e))) (h.be.setCell (by have := h.gb; have := h.lo; simp; omega) _)
/-- the words of the kinds, in memory -/
def kwObj : Obj := .cells #[.string (sb [87, 65, 89, 80, 79, 73, 78, 84]), .string (sb [86, 79, 82]), .string (sb [68, 77, 69]), .string (sb [78, 68, 66]), .string (sb [65, 73, 82, 80, 79, 82, 84]), .string (sb [82, 85, 78, 87, 65, 89])] 9
theorem kw_wdr {w : World} {g : Nat} (hg : g < w.heap.size) : WdR (w.alloc kwObj) g (.slice (some ⟨w.heap.size, 0, none⟩) 6 6) kindWords := by
  refine ⟨_, 6, rfl, Nat.le_refl _, by unfold maxLen; omega, fun _ => ⟨w.heap.size, 0, rfl, by simp, by omega, fun k hk => ?_⟩⟩
  have hb := heap_alloc_new w kwObj
  have hk6 : k < 6 := hk
  rw [Nat.zero_add, Lib.cell_of_heap hb]
  match k, hk6 with
  | 0, _ => rfl
  | 1, _ => rfl
  | 2, _ => rfl
  | 3, _ => rfl
  | 4, _ => rfl
  | 5, _ => rfl
theorem kwords_any (w : World) : Calls Tryz.prog 51 #[] w fun e w' => e = .returned (.slice (some ⟨w.heap.size, 0, none⟩) 6 6) ∧ w' = w.alloc kwObj := by
  go_enter Tryz.func51, Tryz.ntmps51
  go_wp2
  go_ret
  exact ⟨rfl, rfl⟩
theorem rkwords_any (w : World) : Calls Tryz.prog 55 #[] w fun e w' => e = .returned (.slice (some ⟨w.heap.size, 0, none⟩) 6 6) ∧ w' = w.alloc kwObj := by
  go_enter Tryz.func55, Tryz.ntmps55
  go_wp2
  go_ret
  exact ⟨rfl, rfl⟩
end Go.Proofs.YtempiooclhmeoaaGreatDoor
