/-
  Several texts as one.
  The fix of a record: what both sides take of it, and the memory that they take it in.
  Contracts: the fix of a record, or its diagnostic; both sides.
  Contract: the fix of a record, or its diagnostic: the reference.
  Contracts: the fix of a line, on both sides.
  Plain words for the line of a fix; the words of the kinds on both sides.
-/
import Derived.Test.YteojggbmkppjoaaGreatDoorMFixA
import Derived.Test.YteojggbmkppjoaaGreatDoorMScan
import Derived.Test.YteojggbmkppjoaaGreatDoorMAng
import Derived.Test.YteojggbmkppjoaaGreatDoorMRead
namespace Go.Proofs.YteojggbmkppjoaaGreatDoor
open Go.RowKit
set_option linter.unusedVariables false
set_option linter.unusedSimpArgs false

/-! ### what is taken -/
def tkKd (s : Sc) : Nat := (s.tv (-1) (fun t => wordAt kindWords t 0) + 1).toNat
def tkNm (s : Sc) (er : List UInt8 → Int) : Sc := s.take.note s.take.la (er s.text)
def tkEl (s : Sc) (k : Nat) : Sc := if elevB k then s.tk (fun t => pAltE (altSpec t)) else s
def elV (s : Sc) (k : Nat) : Int := if elevB k then s.tv 0 (fun t => pAltN (altSpec t)) else 0
def raV (s : Sc) (k : Nat) : Int := if navB k then s.tv 0 (fun t => distN (distSpec t)) else 0
def tkDs (s : Sc) : Sc := s.tk (fun t => distE (distSpec t))
def tkRa (s : Sc) (k : Nat) : Sc := if navB k then (if raV s k = 0 then (tkDs s).note (tkDs s).la 2 else tkDs s) else s
def tk2 (s : Sc) : Sc := tkNm (s.tk (wordE kindWords)) (fun t => identE t (tkKd s))
def tk3 (s : Sc) : Sc := tkNm (tk2 s) (fun t => locE t (tkKd s))
def tk4 (s : Sc) : Sc := (tk3 s).tk posPErr
def tk5 (s : Sc) : Sc := tkEl (tk4 s) (tkKd s)
def tk6 (s : Sc) : Sc := tkRa (tk5 s) (tkKd s)
def tkFx (s : Sc) : Fx := ⟨(s.tk (wordE kindWords)).text, (tk2 s).text, tkKd s, (tk3 s).tv 0 posPLat, (tk3 s).tv 0 posPLon, elV (tk4 s) (tkKd s), raV (tk5 s) (tkKd s)⟩
/-- the fix that is returned -/
def tkOut (s : Sc) : Fx := if (tk6 s).endB then fx0 else tkFx s
theorem Sc.tk_fs (s : Sc) (er : List UInt8 → Int) : (s.tk er).fs = s.fs := by
  unfold Sc.tk; split
  · rw [Sc.note_fs, Sc.take_fs]
  · exact Sc.take_fs s
theorem tkNm_fs (s : Sc) (er : List UInt8 → Int) : (tkNm s er).fs = s.fs := by unfold tkNm; rw [Sc.note_fs, Sc.take_fs]
theorem tkEl_fs (s : Sc) (k : Nat) : (tkEl s k).fs = s.fs := by unfold tkEl; split; exact Sc.tk_fs s _; rfl
theorem Sc.text_le {s : Sc} {N : Nat} (h : ∀ f ∈ s.fs, f.1.length ≤ N) : s.text.length ≤ N := by
  unfold Sc.text
  split
  · rename_i hg
    have hl := (Sc.got_iff.1 hg).2
    unfold fld
    rw [List.getD_eq_getElem?_getD, List.getElem?_eq_getElem hl]
    exact h _ (List.getElem_mem hl)
  · exact Nat.zero_le _
theorem wordAt_bd (ws : List (List UInt8)) (t : List UInt8) : ∀ n : Nat, wordAt ws t n = -1 ∨ ((n : Int) ≤ wordAt ws t n ∧ wordAt ws t n < n + ws.length) := by
  induction ws with
  | nil => intro n; exact .inl rfl
  | cons w ws ih =>
    intro n
    unfold wordAt
    split
    · right; rw [List.length_cons]; omega
    · rcases ih (n + 1) with h | h
      · exact .inl h
      · right; rw [List.length_cons]; omega
theorem tkKd_eq (s : Sc) : s.tv (-1) (fun t => wordAt kindWords t 0) + 1 = (tkKd s : Int) ∧ tkKd s ≤ 6 := by
  have h : s.tv (-1) (fun t => wordAt kindWords t 0) = -1 ∨ (0 ≤ s.tv (-1) (fun t => wordAt kindWords t 0) ∧ s.tv (-1) (fun t => wordAt kindWords t 0) < 6) := by
    unfold Sc.tv
    split
    · have := wordAt_bd kindWords s.text 0
      have hl : kindWords.length = 6 := rfl
      rw [hl] at this
      show wordAt kindWords s.text 0 = -1 ∨ (0 ≤ wordAt kindWords s.text 0 ∧ wordAt kindWords s.text 0 < 6)
      omega
    · exact .inl rfl
  unfold tkKd
  omega
theorem distN_nonneg (o : Option Int) (h : ∀ v, o = some v → 0 ≤ v) : 0 ≤ distN o := by
  unfold distN
  cases o with
  | none => simp
  | some v => simp only []; split; exact h v rfl; simp
theorem distSpec_nonneg (l : List UInt8) : ∀ v, distSpec l = some v → 0 ≤ v := by
  intro v h
  unfold distSpec distOf at h
  split at h
  · injection h with h; omega
  · cases h
theorem raV_nonneg (s : Sc) (k : Nat) : 0 ≤ raV s k := by
  unfold raV Sc.tv
  split
  · split
    · exact distN_nonneg _ (distSpec_nonneg _)
    · simp
  · simp
/-! ### the memory -/
def DgBox (w : World) (b : Nat) : Prop := w.heap[b]? = some (.cells #[.int .i64 0, .int .i64 0, .int .i64 0] 71 (0, 0))
structure TkR (P : World → Nat → Sc → Prop) (w0 : World) (g bf : Nat) (s : Sc) (f : Fx) (w : World) : Prop where
  sc : P w g s
  bx : FxBox w bf f
  r1 : FxBox w (w0.heap.size + 1) fx0
  r2 : DgBox w (w0.heap.size + 2)
  gb : g < bf
  lo : w0.heap.size + 3 ≤ g
  be : Below w0.heap.size w0 w
section
variable {P : World → Nat → Sc → Prop} {w0 w w' : World} {g bf : Nat} {s s' : Sc} {f : Fx}
theorem lt_heap {w : World} {b : Nat} {o : Obj} (h : w.heap[b]? = some o) : b < w.heap.size := (Array.getElem?_eq_some_iff.1 h).1
theorem TkR.call (h : TkR P w0 g bf s f w) (hs : P w' g s') (ho : Off g w w') : TkR P w0 g bf s' f w' := by
  have l1 := lt_heap h.bx
  have l2 := lt_heap h.r1
  have l3 := lt_heap h.r2
  have gb := h.gb
  have lo := h.lo
  exact ⟨hs, (ho.block bf l1 (by intro e; injection e with e; omega)).trans h.bx, (ho.block _ l2 (by intro e; injection e with e; omega)).trans h.r1, (ho.block _ l3 (by intro e; injection e with e; omega)).trans h.r2, gb, lo, ho.below h.be (by omega) (by omega)⟩
theorem TkR.cells (h : TkR P w0 g bf s f w) : FxCells w bf (sb f.id) (sb f.rg) f.kd f.lat f.lon f.el f.ra := h.bx.cells
theorem TkR.free (h : TkR P w0 g bf s f w) (j : Nat) : w.frozen? ⟨bf, j, none⟩ = false := frozen_of_row w bf j _ _ h.bx
theorem TkR.lt (h : TkR P w0 g bf s f w) : bf < w.heap.size := lt_heap h.bx
end
theorem TkR.pset {w0 w : World} {g bf : Nat} {s : Sc} {f f' : Fx} (h : TkR ScP w0 g bf s f w) {w' : World} (hx : FxBox w' bf f') (ho : ∀ k, k ≠ bf → w'.heap[k]? = w.heap[k]?) (hb : Below w0.heap.size w0 w') : TkR ScP w0 g bf s f' w' := by
  have gb := h.gb
  have lo := h.lo
  exact ⟨h.sc.keep fun k hk => ho k (by omega), hx, (ho _ (by omega)).trans h.r1, (ho _ (by omega)).trans h.r2, gb, lo, hb⟩
theorem TkR.pid {w0 w : World} {g bf : Nat} {s : Sc} {f : Fx} (h : TkR ScP w0 g bf s f w) (l : List UInt8) : TkR ScP w0 g bf s { f with id := l } (w.setCell ⟨bf, 0, none⟩ (.string (sb l))) :=
  h.pset (heap_setCell_same w bf 0 _ _ _ h.bx) (fun k hk => heap_setCell_other w ⟨bf, 0, none⟩ k _ (fun e => hk (by simpa using e))) (h.be.setCell (by have := h.gb; have := h.lo; simp; omega) _)
theorem TkR.prg {w0 w : World} {g bf : Nat} {s : Sc} {f : Fx} (h : TkR ScP w0 g bf s f w) (l : List UInt8) : TkR ScP w0 g bf s { f with rg := l } (w.setCell ⟨bf, 1, none⟩ (.string (sb l))) :=
  h.pset (heap_setCell_same w bf 1 _ _ _ h.bx) (fun k hk => heap_setCell_other w ⟨bf, 1, none⟩ k _ (fun e => hk (by simpa using e))) (h.be.setCell (by have := h.gb; have := h.lo; simp; omega) _)
theorem TkR.plat {w0 w : World} {g bf : Nat} {s : Sc} {f : Fx} (h : TkR ScP w0 g bf s f w) (x : Int) : TkR ScP w0 g bf s { f with lat := x } (w.setCell ⟨bf, 3, none⟩ (.int .i64 x)) :=
  h.pset (heap_setCell_same w bf 3 _ _ _ h.bx) (fun k hk => heap_setCell_other w ⟨bf, 3, none⟩ k _ (fun e => hk (by simpa using e))) (h.be.setCell (by have := h.gb; have := h.lo; simp; omega) _)
theorem TkR.plon {w0 w : World} {g bf : Nat} {s : Sc} {f : Fx} (h : TkR ScP w0 g bf s f w) (x : Int) : TkR ScP w0 g bf s { f with lon := x } (w.setCell ⟨bf, 4, none⟩ (.int .i64 x)) :=
  h.pset (heap_setCell_same w bf 4 _ _ _ h.bx) (fun k hk => heap_setCell_other w ⟨bf, 4, none⟩ k _ (fun e => hk (by simpa using e))) (h.be.setCell (by have := h.gb; have := h.lo; simp; omega) _)
theorem TkR.pel {w0 w : World} {g bf : Nat} {s : Sc} {f : Fx} (h : TkR ScP w0 g bf s f w) (x : Int) : TkR ScP w0 g bf s { f with el := x } (w.setCell ⟨bf, 5, none⟩ (.int .i64 x)) :=
  h.pset (heap_setCell_same w bf 5 _ _ _ h.bx) (fun k hk => heap_setCell_other w ⟨bf, 5, none⟩ k _ (fun e => hk (by simpa using e))) (h.be.setCell (by have := h.gb; have := h.lo; simp; omega) _)
theorem TkR.pra {w0 w : World} {g bf : Nat} {s : Sc} {f : Fx} (h : TkR ScP w0 g bf s f w) (x : Int) : TkR ScP w0 g bf s { f with ra := x } (w.setCell ⟨bf, 6, none⟩ (.int .i64 x)) :=
  h.pset (heap_setCell_same w bf 6 _ _ _ h.bx) (fun k hk => heap_setCell_other w ⟨bf, 6, none⟩ k _ (fun e => hk (by simpa using e))) (h.be.setCell (by have := h.gb; have := h.lo; simp; omega) _)
/-- the words of the kinds, in memory -/
def kwObj : Obj := .cells #[.string (sb [87, 65, 89, 80, 79, 73, 78, 84]), .string (sb [86, 79, 82]), .string (sb [68, 77, 69]), .string (sb [78, 68, 66]), .string (sb [65, 73, 82, 80, 79, 82, 84]), .string (sb [82, 85, 78, 87, 65, 89])] 9
theorem kw_wdr {w : World} {g : Nat} (hg : g < w.heap.size) : WdR (w.alloc kwObj) g (.slice (some ⟨w.heap.size, 0, none⟩) 6 6) kindWords := by
  refine ⟨_, 6, rfl, Nat.le_refl _, by unfold maxLen; omega, fun _ => ⟨w.heap.size, 0, rfl, by simp, by omega, fun k hk => ?_⟩⟩
  have hb := heap_alloc_new w kwObj
  have hk6 : k < 6 := hk
  rw [Nat.zero_add, Lib.cell_of_heap hb]
  match k, hk6 with
  | 0, _ => rfl
  | 1, _ => rfl
  | 2, _ => rfl
  | 3, _ => rfl
  | 4, _ => rfl
  | 5, _ => rfl
theorem kwords_any (w : World) : Calls Tryz.prog 31 #[] w fun e w' => e = .returned (.slice (some ⟨w.heap.size, 0, none⟩) 6 6) ∧ w' = w.alloc kwObj := by
  go_enter Tryz.func31, Tryz.ntmps31
  go_wp2
  go_ret
  exact ⟨rfl, rfl⟩
end Go.Proofs.YteojggbmkppjoaaGreatDoor
namespace Go.Proofs.YteojggbmkppjoaaGreatDoor
open Go.RowKit
set_option linter.unusedVariables false
set_option linter.unusedSimpArgs false

theorem FsR.grow {w w' : World} {v : Value} {fs : List FldI} (h : FsR w w.heap.size v fs) (hb : Below w.heap.size w w') : FsR w' w'.heap.size v fs :=
  (h.keep fun k hk => hb.block k hk).mono hb.size
theorem TkR.frees {P : World → Nat → Sc → Prop} {w0 w : World} {g bf : Nat} {s : Sc} {f : Fx} (h : TkR P w0 g bf s f w) :
    w.frozen? ⟨w0.heap.size + 1, 0, none⟩ = false ∧ w.frozen? ⟨w0.heap.size + 1, 1, none⟩ = false ∧ w.frozen? ⟨w0.heap.size + 1, 2, none⟩ = false ∧ w.frozen? ⟨w0.heap.size + 1, 3, none⟩ = false ∧ w.frozen? ⟨w0.heap.size + 1, 4, none⟩ = false ∧ w.frozen? ⟨w0.heap.size + 1, 5, none⟩ = false ∧ w.frozen? ⟨w0.heap.size + 1, 6, none⟩ = false :=
  ⟨frozen_of_row w _ _ _ _ h.r1, frozen_of_row w _ _ _ _ h.r1, frozen_of_row w _ _ _ _ h.r1, frozen_of_row w _ _ _ _ h.r1, frozen_of_row w _ _ _ _ h.r1, frozen_of_row w _ _ _ _ h.r1, frozen_of_row w _ _ _ _ h.r1⟩
theorem TkR.dgs {P : World → Nat → Sc → Prop} {w0 w : World} {g bf : Nat} {s : Sc} {f : Fx} (h : TkR P w0 g bf s f w) :
    w.cell? ⟨w0.heap.size + 2, 0, none⟩ = some (.int .i64 0) ∧ w.cell? ⟨w0.heap.size + 2, 1, none⟩ = some (.int .i64 0) ∧ w.cell? ⟨w0.heap.size + 2, 2, none⟩ = some (.int .i64 0) ∧
    w.frozen? ⟨w0.heap.size + 2, 0, none⟩ = false ∧ w.frozen? ⟨w0.heap.size + 2, 1, none⟩ = false ∧ w.frozen? ⟨w0.heap.size + 2, 2, none⟩ = false ∧ w0.heap.size + 2 < w.heap.size ∧ w0.heap.size + 2 < bf :=
  ⟨blkCell' h.r2 0 rfl, blkCell' h.r2 1 rfl, blkCell' h.r2 2 rfl, frozen_of_row w _ _ _ _ h.r2, frozen_of_row w _ _ _ _ h.r2, frozen_of_row w _ _ _ _ h.r2, lt_heap h.r2, by have := h.gb; have := h.lo; omega⟩
def TakeFPost (s : Sc) (w : World) (e : Ending) (w' : World) : Prop :=
  e = .returned (.tuple #[.agg #[.string (sb (tkOut s).id), .string (sb (tkOut s).rg), .int .u8 ((tkOut s).kd : Int), .int .i64 (tkOut s).lat, .int .i64 (tkOut s).lon, .int .i64 (tkOut s).el, .int .i64 (tkOut s).ra], .agg #[.int .i64 (tk6 s).endL, .int .i64 (tk6 s).endC, .int .i64 (tk6 s).endE], .bool (tk6 s).endB]) ∧ Below w.heap.size w w'
theorem takeF_bad {s : Sc} {w w' : World} {a b c : Int} (h : (tk6 s).endB = true) (h1 : (tk6 s).endL = a) (h2 : (tk6 s).endC = b) (h3 : (tk6 s).endE = c) (hb : Below w.heap.size w w') :
    TakeFPost s w (.returned (.tuple #[.agg #[.string ⟨#[]⟩, .string ⟨#[]⟩, .int .u8 0, .int .i64 0, .int .i64 0, .int .i64 0, .int .i64 0], .agg #[.int .i64 a, .int .i64 b, .int .i64 c], .bool true])) w' := by
  refine ⟨?_, hb⟩
  have : tkOut s = fx0 := by unfold tkOut; rw [if_pos h]
  rw [this, h, h1, h2, h3]; rfl
theorem takeF_ok {s : Sc} {w w' : World} {f : Fx} (hf : tkFx s = f) (h : (tk6 s).endB = false) (h1 : (tk6 s).endL = 0) (h2 : (tk6 s).endC = 0) (h3 : (tk6 s).endE = 0) (hb : Below w.heap.size w w') :
    TakeFPost s w (.returned (.tuple #[.agg #[.string (sb f.id), .string (sb f.rg), .int .u8 (f.kd : Int), .int .i64 f.lat, .int .i64 f.lon, .int .i64 f.el, .int .i64 f.ra], .agg #[.int .i64 0, .int .i64 0, .int .i64 0], .bool false])) w' := by
  refine ⟨?_, hb⟩
  have : tkOut s = f := by unfold tkOut; rw [if_neg (by rw [h]; decide), hf]
  rw [this, h, h1, h2, h3]
theorem end_zero {s : Sc} (h : s.endB = false) : s.endL = 0 ∧ s.endC = 0 ∧ s.endE = 0 := by
  unfold Sc.endB at h
  rw [Bool.or_eq_false_iff, decide_eq_false_iff_not] at h
  have := end_ok h.1 h.2
  exact ⟨this.1, this.2.1, this.2.2.1⟩
theorem alloc3 (w : World) (o1 o2 o3 : Obj) : (((w.alloc o1).alloc o2).alloc o3).heap[w.heap.size + 1]? = some o2 ∧ (((w.alloc o1).alloc o2).alloc o3).heap[w.heap.size + 2]? = some o3 := by
  have h2 := heap_alloc_new (w.alloc o1) o2
  have h3 := heap_alloc_new ((w.alloc o1).alloc o2) o3
  simp only [World.size_alloc] at h2 h3
  exact ⟨(((Below.refl _ _).alloc (Nat.le_refl _) o3).block (w.heap.size + 1) (by simp)).trans h2, h3⟩
set_option maxRecDepth 100000 in
set_option maxHeartbeats 4000000 in
theorem takeF_any (num : Int) (v : Value) (fs : List FldI) (w : World) (E : Env w) (h : FsR w w.heap.size v fs) (hN : fs.length ≤ 1000000000000) (hS : ∀ f ∈ fs, f.1.length ≤ 140737488351232) :
    Calls Tryz.prog 37 #[.agg #[.int .i64 num, v]] w (TakeFPost (scan0 num fs) w) := by
  have H0 := Lib.hid (fun o1 o2 o3 => h.grow ((((Below.refl w.heap.size w).alloc (Nat.le_refl _) o1).alloc (by simp) o2).alloc (by simp; omega) o3))
  obtain ⟨A, c, rfl, hc, hm⟩ := fld_le h
  obtain ⟨n, hnn⟩ : ∃ n, fs.length = n := ⟨_, rfl⟩
  rw [hnn] at hc H0 ⊢
  have HN := Lib.hid hN
  have HS := Lib.hid hS
  obtain ⟨s0, hs0⟩ : ∃ s, scan0 num fs = s := ⟨_, rfl⟩
  have HFS : Hid (s0.fs = fs) := by rw [← hs0]; rfl
  have HS0 := Lib.hid hs0
  rw [hs0]
  clear h hnn hN hS hs0
  obtain ⟨hk1, hk2⟩ := tkKd_eq s0
  obtain ⟨kd, hkd⟩ : ∃ k, tkKd s0 = k := ⟨_, rfl⟩
  rw [hkd] at hk1 hk2
  obtain ⟨x, hx⟩ : ∃ x, s0.tv (-1) (fun t => wordAt kindWords t 0) = x := ⟨_, rfl⟩
  rw [hx] at hk1
  have HK := Lib.hid hkd
  have HX := Lib.hid hx
  have HK1 := Lib.hid hk1
  have x0 : (0 : Int) ≤ x + 1 := by omega
  have x6 : x + 1 ≤ 6 := by omega
  have x5 : x ≤ 5 := by omega
  have xm : (-1 : Int) ≤ x := by omega
  have hkb : (kd : Int) ≤ 6 := by omega
  clear hkd hx hk1 hk2
  go_enter Tryz.func37, Tryz.ntmps37
  go_wp2_with fail
  refine (scan_any num _ fs _ (H0.out _ _ _) (by have := HN.out; omega)).mono ?_
  rintro e w1 ⟨g, rfl, hg, hsc, hb1⟩
  rw [HS0.out] at hsc
  simp only [World.size_alloc] at hg
  have HB1 : Hid (Below w.heap.size w w1) := ((((Below.refl w.heap.size w).alloc (Nat.le_refl _) _).alloc (by simp) _).alloc (by simp; omega) _).trans (hb1.mono (by simp; omega))
  have R1 : Hid (FxBox w1 (w.heap.size + 1) fx0) := (hb1.block _ (by simp)).trans (alloc3 w _ _ _).1
  have R2 : Hid (DgBox w1 (w.heap.size + 2)) := (hb1.block _ (by simp)).trans (alloc3 w _ _ _).2
  have hgl := hsc.lt
  have E1 : Env w1 := E.below HB1.out
  have HSC := Lib.hid hsc
  clear hb1 hsc
  go_wp2_with fail
  refine (kwords_any _).mono ?_
  rintro e w2 ⟨rfl, rfl⟩
  have HSC2 := Lib.hid (HSC.out.alloc kwObj)
  have HW2 := Lib.hid (kw_wdr hgl)
  have HO2 : Hid (Off g w1 (w1.alloc kwObj)) := (Off.refl g w1).alloc _
  obtain ⟨wk, hwk⟩ : ∃ wk, w1.alloc kwObj = wk := ⟨_, rfl⟩
  rw [hwk] at HSC2 HW2 HO2 ⊢
  clear hwk
  go_wp2_with fail
  refine (word_any s0 g _ kindWords _ HSC2.out HW2.out).mono ?_
  rintro e w2 ⟨rfl, hp⟩
  rw [HX.out]
  have T0 : Hid (TkR ScP w g w2.heap.size (s0.tk (wordE kindWords)) ⟨[], [], kd, 0, 0, 0, 0⟩ (w2.alloc (.cells #[.string ⟨#[]⟩, .string ⟨#[]⟩, .int .u8 (x + 1), .int .i64 0, .int .i64 0, .int .i64 0, .int .i64 0] 34))) := by
    have ho := HO2.out.trans hp.2
    have hl := hp.1.lt
    have l1 := lt_heap R1.out
    have l2 := lt_heap R2.out
    rw [HK1.out]
    refine ⟨hp.1.alloc _, fxBox_new w2 ⟨[], [], kd, 0, 0, 0, 0⟩, ?_, ?_, hl, by omega, ?_⟩
    · exact (((Off.refl g w2).alloc _).block _ (Nat.lt_of_lt_of_le l1 ho.size) (by intro e; injection e with e; omega)).trans ((ho.block _ l1 (by intro e; injection e with e; omega)).trans R1.out)
    · exact (((Off.refl g w2).alloc _).block _ (Nat.lt_of_lt_of_le l2 ho.size) (by intro e; injection e with e; omega)).trans ((ho.block _ l2 (by intro e; injection e with e; omega)).trans R2.out)
    · exact (ho.below HB1.out (by omega) (by omega)).alloc (by have := ho.size; omega) _
  have E2 : Env w2 := E1.of_below ((HO2.out.trans hp.2).below (Below.refl 6 w1) (by have := E.size; omega) E1.size) (Nat.le_refl _)
  clear hp
  obtain ⟨bf, hbf⟩ : ∃ b, w2.heap.size = b := ⟨_, rfl⟩
  rw [hbf] at T0
  have HBF := Lib.hid hbf
  obtain ⟨s1, hs1⟩ : ∃ s, s0.tk (wordE kindWords) = s := ⟨_, rfl⟩
  have F1 : Hid (s1.fs = fs) := by unfold Hid; rw [← hs1, Sc.tk_fs]; exact HFS.out
  have HS1 := Lib.hid hs1
  rw [hs1] at T0
  clear hs1 hbf
  go_wp2_with fail
  refine (field_any s1 g _ T0.out.sc).mono ?_
  rintro e w3 ⟨rfl, hp⟩
  rw [HBF.out]
  have T1 := Lib.hid (T0.out.call hp.1 hp.2)
  have hgn : 6 ≤ g := by have := E1.size; have := T1.out.lo; have := E.size; omega
  have E3 : Env w3 := E.of_below (T1.out.be.mono E.size) (Nat.le_refl _)
  clear hp T0
  obtain ⟨t1, ht1⟩ : ∃ t, s1.text = t := ⟨_, rfl⟩
  have L1 : Hid (t1.length ≤ 140737488351232) := by
    rw [← ht1]
    exact Sc.text_le (by rw [F1.out]; exact HS.out)
  rw [ht1]
  have HT1 := Lib.hid ht1
  clear ht1
  obtain ⟨c0, c1, c2, c3, c4, c5, c6⟩ : FxCells w3 bf (sb []) (sb []) kd 0 0 0 0 := T1.out.cells
  have f0 := T1.out.free 0
  have hbl := T1.out.lt
  have T2 := Lib.hid (T1.out.pid t1)
  go_wp2_with fail
  refine (identified_any (sb t1) kd _ (by have := L1.out; unfold maxLen; show t1.length ≤ _; omega)).mono ?_
  rintro e w4 ⟨rfl, hd⟩
  rw [bl_sb]
  have T3 := Lib.hid (T2.out.call (T2.out.sc.below hd.below) (Off.of_below hd.below))
  clear hd T2 c0 c1 c2 c3 c4 c5 c6 f0 hbl
  obtain ⟨e1, he1⟩ : ∃ x, identE t1 kd = x := ⟨_, rfl⟩
  rw [he1]
  have HE1 := Lib.hid he1
  clear he1
  go_wp2_with fail
  refine (failS_any s1.take e1 g _ T3.out.sc).mono ?_
  rintro e w5 ⟨rfl, hp⟩
  have T4 := Lib.hid (T3.out.call hp.1 hp.2)
  clear hp T3
  obtain ⟨s2, hs2⟩ : ∃ s, s1.take.note s1.take.la e1 = s := ⟨_, rfl⟩
  have HS2 : Hid (tk2 s0 = s2) := by
    unfold Hid tk2 tkNm; rw [HS1.out, HT1.out, HK.out]; show s1.take.note s1.take.la (identE t1 kd) = s2; rw [HE1.out, hs2]
  have F2 : Hid (s2.fs = fs) := by unfold Hid; rw [← hs2, Sc.note_fs, Sc.take_fs]; exact F1.out
  rw [hs2] at T4
  clear hs2
  obtain ⟨c0, c1, c2, c3, c4, c5, c6⟩ : FxCells w5 bf (sb t1) (sb []) kd 0 0 0 0 := T4.out.cells
  have hbl := T4.out.lt
  go_wp2_with fail
  refine (field_any s2 g _ T4.out.sc).mono ?_
  rintro e w6 ⟨rfl, hp⟩
  have T5 := Lib.hid (T4.out.call hp.1 hp.2)
  clear hp T4 c0 c1 c2 c3 c4 c5 c6 hbl
  obtain ⟨t2, ht2⟩ : ∃ t, s2.text = t := ⟨_, rfl⟩
  have L2 : Hid (t2.length ≤ 140737488351232) := by
    rw [← ht2]
    exact Sc.text_le (by rw [F2.out]; exact HS.out)
  rw [ht2]
  have HT2 := Lib.hid ht2
  clear ht2
  obtain ⟨c0, c1, c2, c3, c4, c5, c6⟩ : FxCells w6 bf (sb t1) (sb []) kd 0 0 0 0 := T5.out.cells
  have f1 := T5.out.free 1
  have hbl := T5.out.lt
  have T6 := Lib.hid (T5.out.prg t2)
  go_wp2_with fail
  refine (located_any (sb t2) kd _ (by have := L2.out; unfold maxLen; show t2.length ≤ _; omega)).mono ?_
  rintro e w7 ⟨rfl, hd⟩
  rw [bl_sb]
  have T7 := Lib.hid (T6.out.call (T6.out.sc.below hd.below) (Off.of_below hd.below))
  clear hd T5 T6 c0 c1 c2 c3 c4 c5 c6 f1 hbl
  obtain ⟨e2, he2⟩ : ∃ x, locE t2 kd = x := ⟨_, rfl⟩
  rw [he2]
  have HE2 := Lib.hid he2
  clear he2
  go_wp2_with fail
  refine (failS_any s2.take e2 g _ T7.out.sc).mono ?_
  rintro e w8 ⟨rfl, hp⟩
  have T8 := Lib.hid (T7.out.call hp.1 hp.2)
  clear hp T7
  obtain ⟨s3, hs3⟩ : ∃ s, s2.take.note s2.take.la e2 = s := ⟨_, rfl⟩
  have HS3 : Hid (tk3 s0 = s3) := by
    unfold Hid tk3; rw [HS2.out]; unfold tkNm; rw [HT2.out, HK.out]; show s2.take.note s2.take.la (locE t2 kd) = s3; rw [HE2.out, hs3]
  have F3 : Hid (s3.fs = fs) := by unfold Hid; rw [← hs3, Sc.note_fs, Sc.take_fs]; exact F2.out
  rw [hs3] at T8
  clear hs3
  have L3 : Hid (s3.text.length ≤ 140737488351232) := Sc.text_le (by rw [F3.out]; exact HS.out)
  obtain ⟨c0, c1, c2, c3, c4, c5, c6⟩ : FxCells w8 bf (sb t1) (sb t2) kd 0 0 0 0 := T8.out.cells
  have hbl := T8.out.lt
  go_wp2_with fail
  refine (posS_any s3 g _ L3.out T8.out.sc).mono ?_
  rintro e w9 ⟨rfl, hp⟩
  have T9 := Lib.hid (T8.out.call hp.1 hp.2)
  clear hp T8 c0 c1 c2 c3 c4 c5 c6 hbl
  obtain ⟨la, hla⟩ : ∃ t, s3.tv 0 posPLat = t := ⟨_, rfl⟩
  obtain ⟨lo, hlo⟩ : ∃ t, s3.tv 0 posPLon = t := ⟨_, rfl⟩
  rw [hla, hlo]
  have HLA := Lib.hid hla
  have HLO := Lib.hid hlo
  obtain ⟨s4, hs4⟩ : ∃ s, s3.tk posPErr = s := ⟨_, rfl⟩
  have HS4 : Hid (tk4 s0 = s4) := by unfold Hid tk4; rw [HS3.out, hs4]
  have F4 : Hid (s4.fs = fs) := by unfold Hid; rw [← hs4, Sc.tk_fs]; exact F3.out
  rw [hs4] at T9
  clear hs4 hla hlo
  obtain ⟨c0, c1, c2, c3, c4, c5, c6⟩ : FxCells w9 bf (sb t1) (sb t2) kd 0 0 0 0 := T9.out.cells
  have f3 := T9.out.free 3
  have f4 := T9.out.free 4
  have hbl := T9.out.lt
  have T10 := Lib.hid ((T9.out.plat la).plon lo)
  have L4 : Hid (s4.text.length ≤ 140737488351232) := Sc.text_le (by rw [F4.out]; exact HS.out)
  have E4 : Env ((w9.setCell ⟨bf, 3, none⟩ (.int .i64 la)).setCell ⟨bf, 4, none⟩ (.int .i64 lo)) := E.of_below (T10.out.be.mono E.size) (Nat.le_refl _)
  go_wp2_with fail
  refine (elevated_any kd _).mono ?_
  rintro e w10 ⟨rfl, rfl⟩
  have HEV0 : Hid (elevB kd = false → tk5 s0 = s4 ∧ elV s4 kd = 0) := by
    intro hb; unfold tk5; rw [HS4.out, HK.out]; unfold tkEl elV; rw [hb]; exact ⟨rfl, rfl⟩
  have HEV1 : Hid (elevB kd = true → tk5 s0 = s4.tk (fun t => pAltE (altSpec t)) ∧ elV s4 kd = s4.tv 0 (fun t => pAltN (altSpec t))) := by
    intro hb; unfold tk5; rw [HS4.out, HK.out]; unfold tkEl elV; rw [hb]; exact ⟨rfl, rfl⟩
  have HNV0 : Hid (navB kd = false → tk6 s0 = tk5 s0 ∧ raV (tk5 s0) kd = 0) := by
    intro hb; unfold tk6; rw [HK.out]; unfold tkRa raV; rw [hb]; exact ⟨rfl, rfl⟩
  have HNV1 : Hid (navB kd = true → tk6 s0 = (if raV (tk5 s0) kd = 0 then (tkDs (tk5 s0)).note (tkDs (tk5 s0)).la 2 else tkDs (tk5 s0)) ∧ raV (tk5 s0) kd = (tk5 s0).tv 0 (fun t => distN (distSpec t))) := by
    intro hb; unfold tk6; rw [HK.out]; unfold tkRa raV; rw [hb]; exact ⟨rfl, rfl⟩
  have HFX : Hid (∀ a b, elV s4 kd = a → raV (tk5 s0) kd = b → tkFx s0 = ⟨t1, t2, kd, la, lo, a, b⟩) := by
    intro a b ha hb; unfold tkFx; rw [HS1.out, HS2.out, HS3.out, HS4.out, HK.out, HT1.out, HT2.out, HLA.out, HLO.out, ha, hb]
  have HEX : Hid (elevB kd = true → navB kd = true → False) := by
    intro h1 h2; have := elev_yes h1; rcases nav_ways h2 with ⟨_, _, _⟩ | ⟨h, _⟩ | ⟨h, _⟩; omega; cases h; cases h
  cases hev : elevB kd
  · have HV := Lib.hid (HEV0.out hev)
    clear hev
    go_wp2_with fail
    refine (navaid_any kd _).mono ?_
    rintro e w11 ⟨rfl, rfl⟩
    cases hnv : navB kd
    · have HW := Lib.hid (HNV0.out hnv)
      clear hnv
      obtain ⟨s6, hs6⟩ : ∃ s, s4 = s := ⟨_, rfl⟩
      have HS6 : Hid (tk6 s0 = s6) := by unfold Hid; rw [HW.out.1, HV.out.1, hs6]
      have HF6 : Hid (tkFx s0 = ⟨t1, t2, kd, la, lo, 0, 0⟩) := HFX.out 0 0 HV.out.2 HW.out.2
      have TT := T10.out
      rw [hs6] at TT
      have TT := Lib.hid TT
      clear hs6
      go_wp2_with fail
      refine (endS_any s6 g _ TT.out.sc).mono ?_
      rintro e wz ⟨rfl, hb⟩
      have TZ := Lib.hid (TT.out.call (TT.out.sc.below hb) (Off.of_below hb))
      clear hb
      clear c0 c1 c2 c3 c4 c5 c6 f3 f4 hbl
      obtain ⟨c0, c1, c2, c3, c4, c5, c6⟩ : FxCells wz bf (sb t1) (sb t2) kd la lo 0 0 := TZ.out.cells
      obtain ⟨r0, r1, r2, r3, r4, r5, r6⟩ : FxCells wz (w.heap.size + 1) ⟨#[]⟩ ⟨#[]⟩ 0 0 0 0 0 := TZ.out.r1.cells
      obtain ⟨q0, q1, q2, q3, q4, q5, q6⟩ := TZ.out.frees
      obtain ⟨d0, d1, d2, d3, d4, d5, d6, d7⟩ := TZ.out.dgs
      have hbl := TZ.out.lt
      have hl1 : w.heap.size + 1 < wz.heap.size := by omega
      cases hend : s6.endB
      · have hz := end_zero hend
        rw [hz.1, hz.2.1, hz.2.2]
        have HZ := Lib.hid hz
        have HD := Lib.hid hend
        clear hz hend
        go_wp2
        exact bodyPost_ret (v := .tuple #[.agg #[.string (sb t1), .string (sb t2), .int .u8 (kd : Int), .int .i64 la, .int .i64 lo, .int .i64 0, .int .i64 0], .agg #[.int .i64 0, .int .i64 0, .int .i64 0], .bool false]) (by simp [results, Tryz.results37, go_sem, r0, r1, r2, r3, r4, r5, r6, d0, d1, d2, d6, hl1]) rfl (takeF_ok HF6.out (by rw [HS6.out]; exact HD.out) (by rw [HS6.out]; exact HZ.out.1) (by rw [HS6.out]; exact HZ.out.2.1) (by rw [HS6.out]; exact HZ.out.2.2) (by repeat (first | with_reducible exact TZ.out.be | with_reducible refine Below.setCell ?_ (by first | (simp; done) | (simp; omega)) _ | with_reducible refine Below.drew ?_ | with_reducible refine below_drewN' ?_ _ | with_reducible refine Below.alloc ?_ (by first | (simp; done) | (simp; omega)) _)))
      · have HD := Lib.hid hend
        obtain ⟨xl, hxl⟩ : ∃ x, s6.endL = x := ⟨_, rfl⟩
        obtain ⟨xc, hxc⟩ : ∃ x, s6.endC = x := ⟨_, rfl⟩
        obtain ⟨xe, hxe⟩ : ∃ x, s6.endE = x := ⟨_, rfl⟩
        rw [hxl, hxc, hxe]
        have HXL := Lib.hid hxl
        have HXC := Lib.hid hxc
        have HXE := Lib.hid hxe
        clear hend hxl hxc hxe
        go_wp2
        go_region
        go_wp2
        exact bodyPost_ret (v := .tuple #[.agg #[.string ⟨#[]⟩, .string ⟨#[]⟩, .int .u8 0, .int .i64 0, .int .i64 0, .int .i64 0, .int .i64 0], .agg #[.int .i64 xl, .int .i64 xc, .int .i64 xe], .bool true]) (by simp [results, Tryz.results37, go_sem, r0, r1, r2, r3, r4, r5, r6, d0, d1, d2, d6, hl1]) rfl (takeF_bad (by rw [HS6.out]; exact HD.out) (by rw [HS6.out]; exact HXL.out) (by rw [HS6.out]; exact HXC.out) (by rw [HS6.out]; exact HXE.out) (by repeat (first | with_reducible exact TZ.out.be | with_reducible refine Below.setCell ?_ (by first | (simp; done) | (simp; omega)) _ | with_reducible refine Below.drew ?_ | with_reducible refine below_drewN' ?_ _ | with_reducible refine Below.alloc ?_ (by first | (simp; done) | (simp; omega)) _)))
    · have HW := Lib.hid (HNV1.out hnv)
      clear hnv
      have HV1 : Hid (tk5 s0 = s4) := HV.out.1
      have HW1 := HW.out
      rw [HV1.out] at HW1
      have HW2 := Lib.hid HW1
      have HFX2 := HFX.out
      rw [HV1.out] at HFX2
      have HFX3 := Lib.hid HFX2
      clear HW1 HFX2
      go_wp2_with fail
      refine (distS_any s4 g _ E4 L4.out hgn T10.out.sc).mono ?_
      rintro e w11 ⟨rfl, hp⟩
      have T11 := Lib.hid (T10.out.call hp.1 hp.2)
      clear hp c0 c1 c2 c3 c4 c5 c6 f3 f4 hbl
      obtain ⟨ra, hra⟩ : ∃ t, s4.tv 0 (fun t => distN (distSpec t)) = t := ⟨_, rfl⟩
      have HRV : Hid (raV s4 kd = ra) := by unfold Hid; rw [HW2.out.2, hra]
      have hra0 : 0 ≤ ra := by rw [← HRV.out]; exact raV_nonneg _ _
      rw [hra]
      clear hra
      obtain ⟨s5, hs5⟩ : ∃ s, s4.tk (fun t => distE (distSpec t)) = s := ⟨_, rfl⟩
      have HS5 : Hid (tkDs s4 = s5) := hs5
      rw [hs5] at T11
      clear hs5
      obtain ⟨c0, c1, c2, c3, c4, c5, c6⟩ : FxCells w11 bf (sb t1) (sb t2) kd la lo 0 0 := T11.out.cells
      have f6 := T11.out.free 6
      have hbl := T11.out.lt
      have T12 := Lib.hid (T11.out.pra ra)
      have HF6 : Hid (tkFx s0 = ⟨t1, t2, kd, la, lo, 0, ra⟩) := HFX3.out 0 ra HV.out.2 HRV.out
      by_cases hz : ra = 0
      · have HZ0 := Lib.hid hz
        have e1 : (ra == 0) = true := beq_iff_eq.2 hz
        have hlt1 : ra < 1 := by omega
        clear hz
        go_wp2_with fail
        refine (failS_any s5 2 g _ T12.out.sc).mono ?_
        rintro e w12 ⟨rfl, hp⟩
        have T13 := Lib.hid (T12.out.call hp.1 hp.2)
        clear hp
        obtain ⟨s6, hs6⟩ : ∃ s, s5.note s5.la 2 = s := ⟨_, rfl⟩
        have HS6 : Hid (tk6 s0 = s6) := by
          unfold Hid
          rw [HW2.out.1, HRV.out, if_pos HZ0.out, HS5.out, hs6]
        rw [hs6] at T13
        clear hs6
        go_wp2_with fail
        refine (endS_any s6 g _ T13.out.sc).mono ?_
        rintro e wz ⟨rfl, hb⟩
        have TZ := Lib.hid (T13.out.call (T13.out.sc.below hb) (Off.of_below hb))
        clear hb
        clear c0 c1 c2 c3 c4 c5 c6 f6 hbl e1 hlt1
        obtain ⟨c0, c1, c2, c3, c4, c5, c6⟩ : FxCells wz bf (sb t1) (sb t2) kd la lo 0 ra := TZ.out.cells
        obtain ⟨r0, r1, r2, r3, r4, r5, r6⟩ : FxCells wz (w.heap.size + 1) ⟨#[]⟩ ⟨#[]⟩ 0 0 0 0 0 := TZ.out.r1.cells
        obtain ⟨q0, q1, q2, q3, q4, q5, q6⟩ := TZ.out.frees
        obtain ⟨d0, d1, d2, d3, d4, d5, d6, d7⟩ := TZ.out.dgs
        have hbl := TZ.out.lt
        have hl1 : w.heap.size + 1 < wz.heap.size := by omega
        cases hend : s6.endB
        · have hz := end_zero hend
          rw [hz.1, hz.2.1, hz.2.2]
          have HZ := Lib.hid hz
          have HD := Lib.hid hend
          clear hz hend
          go_wp2
          exact bodyPost_ret (v := .tuple #[.agg #[.string (sb t1), .string (sb t2), .int .u8 (kd : Int), .int .i64 la, .int .i64 lo, .int .i64 0, .int .i64 ra], .agg #[.int .i64 0, .int .i64 0, .int .i64 0], .bool false]) (by simp [results, Tryz.results37, go_sem, r0, r1, r2, r3, r4, r5, r6, d0, d1, d2, d6, hl1]) rfl (takeF_ok HF6.out (by rw [HS6.out]; exact HD.out) (by rw [HS6.out]; exact HZ.out.1) (by rw [HS6.out]; exact HZ.out.2.1) (by rw [HS6.out]; exact HZ.out.2.2) (by repeat (first | with_reducible exact TZ.out.be | with_reducible refine Below.setCell ?_ (by first | (simp; done) | (simp; omega)) _ | with_reducible refine Below.drew ?_ | with_reducible refine below_drewN' ?_ _ | with_reducible refine Below.alloc ?_ (by first | (simp; done) | (simp; omega)) _)))
        · have HD := Lib.hid hend
          obtain ⟨xl, hxl⟩ : ∃ x, s6.endL = x := ⟨_, rfl⟩
          obtain ⟨xc, hxc⟩ : ∃ x, s6.endC = x := ⟨_, rfl⟩
          obtain ⟨xe, hxe⟩ : ∃ x, s6.endE = x := ⟨_, rfl⟩
          rw [hxl, hxc, hxe]
          have HXL := Lib.hid hxl
          have HXC := Lib.hid hxc
          have HXE := Lib.hid hxe
          clear hend hxl hxc hxe
          go_wp2
          go_region
          go_wp2
          exact bodyPost_ret (v := .tuple #[.agg #[.string ⟨#[]⟩, .string ⟨#[]⟩, .int .u8 0, .int .i64 0, .int .i64 0, .int .i64 0, .int .i64 0], .agg #[.int .i64 xl, .int .i64 xc, .int .i64 xe], .bool true]) (by simp [results, Tryz.results37, go_sem, r0, r1, r2, r3, r4, r5, r6, d0, d1, d2, d6, hl1]) rfl (takeF_bad (by rw [HS6.out]; exact HD.out) (by rw [HS6.out]; exact HXL.out) (by rw [HS6.out]; exact HXC.out) (by rw [HS6.out]; exact HXE.out) (by repeat (first | with_reducible exact TZ.out.be | with_reducible refine Below.setCell ?_ (by first | (simp; done) | (simp; omega)) _ | with_reducible refine Below.drew ?_ | with_reducible refine below_drewN' ?_ _ | with_reducible refine Below.alloc ?_ (by first | (simp; done) | (simp; omega)) _)))
      · have HZ0 := Lib.hid hz
        have e1 : (ra == 0) = false := beq_eq_false_iff_ne.2 hz
        have hlt1 : 1 ≤ ra := by omega
        clear hz
        obtain ⟨s6, hs6⟩ : ∃ s, s5 = s := ⟨_, rfl⟩
        have HS6 : Hid (tk6 s0 = s6) := by
          unfold Hid
          rw [HW2.out.1, HRV.out, if_neg HZ0.out, HS5.out, hs6]
        rw [hs6] at T12
        clear hs6
        go_wp2_with fail
        refine (endS_any s6 g _ T12.out.sc).mono ?_
        rintro e wz ⟨rfl, hb⟩
        have TZ := Lib.hid (T12.out.call (T12.out.sc.below hb) (Off.of_below hb))
        clear hb
        clear c0 c1 c2 c3 c4 c5 c6 f6 hbl e1 hlt1
        obtain ⟨c0, c1, c2, c3, c4, c5, c6⟩ : FxCells wz bf (sb t1) (sb t2) kd la lo 0 ra := TZ.out.cells
        obtain ⟨r0, r1, r2, r3, r4, r5, r6⟩ : FxCells wz (w.heap.size + 1) ⟨#[]⟩ ⟨#[]⟩ 0 0 0 0 0 := TZ.out.r1.cells
        obtain ⟨q0, q1, q2, q3, q4, q5, q6⟩ := TZ.out.frees
        obtain ⟨d0, d1, d2, d3, d4, d5, d6, d7⟩ := TZ.out.dgs
        have hbl := TZ.out.lt
        have hl1 : w.heap.size + 1 < wz.heap.size := by omega
        cases hend : s6.endB
        · have hz := end_zero hend
          rw [hz.1, hz.2.1, hz.2.2]
          have HZ := Lib.hid hz
          have HD := Lib.hid hend
          clear hz hend
          go_wp2
          exact bodyPost_ret (v := .tuple #[.agg #[.string (sb t1), .string (sb t2), .int .u8 (kd : Int), .int .i64 la, .int .i64 lo, .int .i64 0, .int .i64 ra], .agg #[.int .i64 0, .int .i64 0, .int .i64 0], .bool false]) (by simp [results, Tryz.results37, go_sem, r0, r1, r2, r3, r4, r5, r6, d0, d1, d2, d6, hl1]) rfl (takeF_ok HF6.out (by rw [HS6.out]; exact HD.out) (by rw [HS6.out]; exact HZ.out.1) (by rw [HS6.out]; exact HZ.out.2.1) (by rw [HS6.out]; exact HZ.out.2.2) (by repeat (first | with_reducible exact TZ.out.be | with_reducible refine Below.setCell ?_ (by first | (simp; done) | (simp; omega)) _ | with_reducible refine Below.drew ?_ | with_reducible refine below_drewN' ?_ _ | with_reducible refine Below.alloc ?_ (by first | (simp; done) | (simp; omega)) _)))
        · have HD := Lib.hid hend
          obtain ⟨xl, hxl⟩ : ∃ x, s6.endL = x := ⟨_, rfl⟩
          obtain ⟨xc, hxc⟩ : ∃ x, s6.endC = x := ⟨_, rfl⟩
          obtain ⟨xe, hxe⟩ : ∃ x, s6.endE = x := ⟨_, rfl⟩
          rw [hxl, hxc, hxe]
          have HXL := Lib.hid hxl
          have HXC := Lib.hid hxc
          have HXE := Lib.hid hxe
          clear hend hxl hxc hxe
          go_wp2
          go_region
          go_wp2
          exact bodyPost_ret (v := .tuple #[.agg #[.string ⟨#[]⟩, .string ⟨#[]⟩, .int .u8 0, .int .i64 0, .int .i64 0, .int .i64 0, .int .i64 0], .agg #[.int .i64 xl, .int .i64 xc, .int .i64 xe], .bool true]) (by simp [results, Tryz.results37, go_sem, r0, r1, r2, r3, r4, r5, r6, d0, d1, d2, d6, hl1]) rfl (takeF_bad (by rw [HS6.out]; exact HD.out) (by rw [HS6.out]; exact HXL.out) (by rw [HS6.out]; exact HXC.out) (by rw [HS6.out]; exact HXE.out) (by repeat (first | with_reducible exact TZ.out.be | with_reducible refine Below.setCell ?_ (by first | (simp; done) | (simp; omega)) _ | with_reducible refine Below.drew ?_ | with_reducible refine below_drewN' ?_ _ | with_reducible refine Below.alloc ?_ (by first | (simp; done) | (simp; omega)) _)))
  · have HV := Lib.hid (HEV1.out hev)
    have HNN : Hid (navB kd = false) := by
      unfold Hid
      cases hnv : navB kd
      · rfl
      · exact (HEX.out hev hnv).elim
    have HW := Lib.hid (HNV0.out HNN.out)
    clear hev
    go_wp2_with fail
    refine (altS_any s4 g _ E4 L4.out hgn T10.out.sc).mono ?_
    rintro e w11 ⟨rfl, hp⟩
    have T11 := Lib.hid (T10.out.call hp.1 hp.2)
    clear hp c0 c1 c2 c3 c4 c5 c6 f3 f4 hbl
    obtain ⟨ev, hev⟩ : ∃ t, s4.tv 0 (fun t => pAltN (altSpec t)) = t := ⟨_, rfl⟩
    have HEL : Hid (elV s4 kd = ev) := by unfold Hid; rw [HV.out.2, hev]
    rw [hev]
    clear hev
    obtain ⟨s6, hs6⟩ : ∃ s, s4.tk (fun t => pAltE (altSpec t)) = s := ⟨_, rfl⟩
    have HS6 : Hid (tk6 s0 = s6) := by unfold Hid; rw [HW.out.1, HV.out.1, hs6]
    have HF6 : Hid (tkFx s0 = ⟨t1, t2, kd, la, lo, ev, 0⟩) := HFX.out ev 0 HEL.out HW.out.2
    rw [hs6] at T11
    clear hs6
    obtain ⟨c0, c1, c2, c3, c4, c5, c6⟩ : FxCells w11 bf (sb t1) (sb t2) kd la lo 0 0 := T11.out.cells
    have f5 := T11.out.free 5
    have hbl := T11.out.lt
    have T12 := Lib.hid (T11.out.pel ev)
    go_wp2_with fail
    refine (navaid_any kd _).mono ?_
    rintro e w12 ⟨rfl, rfl⟩
    rw [HNN.out]
    go_wp2_with fail
    refine (endS_any s6 g _ T12.out.sc).mono ?_
    rintro e wz ⟨rfl, hb⟩
    have TZ := Lib.hid (T12.out.call (T12.out.sc.below hb) (Off.of_below hb))
    clear hb
    clear c0 c1 c2 c3 c4 c5 c6 f5 hbl
    obtain ⟨c0, c1, c2, c3, c4, c5, c6⟩ : FxCells wz bf (sb t1) (sb t2) kd la lo ev 0 := TZ.out.cells
    obtain ⟨r0, r1, r2, r3, r4, r5, r6⟩ : FxCells wz (w.heap.size + 1) ⟨#[]⟩ ⟨#[]⟩ 0 0 0 0 0 := TZ.out.r1.cells
    obtain ⟨q0, q1, q2, q3, q4, q5, q6⟩ := TZ.out.frees
    obtain ⟨d0, d1, d2, d3, d4, d5, d6, d7⟩ := TZ.out.dgs
    have hbl := TZ.out.lt
    have hl1 : w.heap.size + 1 < wz.heap.size := by omega
    cases hend : s6.endB
    · have hz := end_zero hend
      rw [hz.1, hz.2.1, hz.2.2]
      have HZ := Lib.hid hz
      have HD := Lib.hid hend
      clear hz hend
      go_wp2
      exact bodyPost_ret (v := .tuple #[.agg #[.string (sb t1), .string (sb t2), .int .u8 (kd : Int), .int .i64 la, .int .i64 lo, .int .i64 ev, .int .i64 0], .agg #[.int .i64 0, .int .i64 0, .int .i64 0], .bool false]) (by simp [results, Tryz.results37, go_sem, r0, r1, r2, r3, r4, r5, r6, d0, d1, d2, d6, hl1]) rfl (takeF_ok HF6.out (by rw [HS6.out]; exact HD.out) (by rw [HS6.out]; exact HZ.out.1) (by rw [HS6.out]; exact HZ.out.2.1) (by rw [HS6.out]; exact HZ.out.2.2) (by repeat (first | with_reducible exact TZ.out.be | with_reducible refine Below.setCell ?_ (by first | (simp; done) | (simp; omega)) _ | with_reducible refine Below.drew ?_ | with_reducible refine below_drewN' ?_ _ | with_reducible refine Below.alloc ?_ (by first | (simp; done) | (simp; omega)) _)))
    · have HD := Lib.hid hend
      obtain ⟨xl, hxl⟩ : ∃ x, s6.endL = x := ⟨_, rfl⟩
      obtain ⟨xc, hxc⟩ : ∃ x, s6.endC = x := ⟨_, rfl⟩
      obtain ⟨xe, hxe⟩ : ∃ x, s6.endE = x := ⟨_, rfl⟩
      rw [hxl, hxc, hxe]
      have HXL := Lib.hid hxl
      have HXC := Lib.hid hxc
      have HXE := Lib.hid hxe
      clear hend hxl hxc hxe
      go_wp2
      go_region
      go_wp2
      exact bodyPost_ret (v := .tuple #[.agg #[.string ⟨#[]⟩, .string ⟨#[]⟩, .int .u8 0, .int .i64 0, .int .i64 0, .int .i64 0, .int .i64 0], .agg #[.int .i64 xl, .int .i64 xc, .int .i64 xe], .bool true]) (by simp [results, Tryz.results37, go_sem, r0, r1, r2, r3, r4, r5, r6, d0, d1, d2, d6, hl1]) rfl (takeF_bad (by rw [HS6.out]; exact HD.out) (by rw [HS6.out]; exact HXL.out) (by rw [HS6.out]; exact HXC.out) (by rw [HS6.out]; exact HXE.out) (by repeat (first | with_reducible exact TZ.out.be | with_reducible refine Below.setCell ?_ (by first | (simp; done) | (simp; omega)) _ | with_reducible refine Below.drew ?_ | with_reducible refine below_drewN' ?_ _ | with_reducible refine Below.alloc ?_ (by first | (simp; done) | (simp; omega)) _)))
end Go.Proofs.YteojggbmkppjoaaGreatDoor
namespace Go.Proofs.YteojggbmkppjoaaGreatDoor
open Go.RowKit
set_option linter.unusedVariables false
set_option linter.unusedSimpArgs false

end Go.Proofs.YteojggbmkppjoaaGreatDoor
namespace Go.Proofs.YteojggbmkppjoaaGreatDoor
open Go.RowKit
set_option linter.unusedVariables false
set_option linter.unusedSimpArgs false

/-! ### a scanner that has failed -/
theorem tk_bad {s : Sc} (h : s.bad = true) (er : List UInt8 → Int) : s.tk er = s := by
  rw [Sc.tk_no (by unfold Sc.got; rw [h]; rfl), Sc.take_bad h]
theorem tkNm_bad {s : Sc} (h : s.bad = true) (er : List UInt8 → Int) : tkNm s er = s := by
  unfold tkNm; rw [Sc.take_bad h, Sc.note_bad h]
theorem tk6_bad {s : Sc} (h : (s.tk (wordE kindWords)).bad = true) : tk6 s = s.tk (wordE kindWords) := by
  have h2 : tk2 s = s.tk (wordE kindWords) := by unfold tk2; exact tkNm_bad h _
  have h3 : tk3 s = s.tk (wordE kindWords) := by unfold tk3; rw [h2]; exact tkNm_bad h _
  have h4 : tk4 s = s.tk (wordE kindWords) := by unfold tk4; rw [h3]; exact tk_bad h _
  have h5 : tk5 s = s.tk (wordE kindWords) := by
    unfold tk5; rw [h4]; unfold tkEl
    split
    · exact tk_bad h _
    · rfl
  unfold tk6 tkRa
  rw [h5]
  have h6 : tkDs (s.tk (wordE kindWords)) = s.tk (wordE kindWords) := by unfold tkDs; exact tk_bad h _
  rw [h6, Sc.note_bad h]
  simp
theorem tk_none (num : Int) : (tk6 (scan0 num [])).endE = 4 ∧ tkOut (scan0 num []) = fx0 ∧ (tk6 (scan0 num [])).endB = true := by
  have h1 : (scan0 num []).tk (wordE kindWords) = { scan0 num [] with dl := num, dc := 1, de := 4 } := by
    rw [Sc.tk_no rfl, Sc.take_end rfl (by simp [scan0])]; rfl
  have hb : ((scan0 num []).tk (wordE kindWords)).bad = true := by rw [h1]; rfl
  have h6 := tk6_bad hb
  have he := end_bad (s := tk6 (scan0 num [])) (by rw [h6]; exact hb)
  refine ⟨by rw [he.2.2.1, h6, h1], ?_, he.2.2.2⟩
  unfold tkOut; rw [if_pos he.2.2.2]
/-! ### what Parse answers -/
def paS (l : List UInt8) : Sc := scan0 1 (fldI (splitF l))
def paE (l : List UInt8) : Int := if splitErr l = 0 then (tk6 (paS l)).endE else splitErr l
def paF (l : List UInt8) : Fx := if splitErr l = 0 then tkOut (paS l) else fx0
def ParseFPost (l : List UInt8) (w : World) (e : Ending) (w' : World) : Prop :=
  e = .returned (.tuple #[.agg #[.string (sb (paF l).id), .string (sb (paF l).rg), .int .u8 ((paF l).kd : Int), .int .i64 (paF l).lat, .int .i64 (paF l).lon, .int .i64 (paF l).el, .int .i64 (paF l).ra], .int .i64 (paE l)]) ∧ Below w.heap.size w w'
theorem ParseFPost.mk {l : List UInt8} {w w' : World} {f : Fx} {er : Int} (h1 : paF l = f) (h2 : paE l = er) (hb : Below w.heap.size w w') :
    ParseFPost l w (.returned (.tuple #[.agg #[.string (sb f.id), .string (sb f.rg), .int .u8 (f.kd : Int), .int .i64 f.lat, .int .i64 f.lon, .int .i64 f.el, .int .i64 f.ra], .int .i64 er])) w' := by
  subst h1 h2; exact ⟨rfl, hb⟩
theorem endB_E {s : Sc} : s.endB = true ↔ s.endE ≠ 0 := by
  unfold Sc.endB Sc.endE Sc.bad
  by_cases h : s.de = 0
  · by_cases h2 : s.nx < s.fs.length <;> simp [h, h2]
  · simp [h]
set_option maxRecDepth 100000 in
set_option maxHeartbeats 2000000 in
theorem parseF_any (s : ByteArray) (w : World) (E : Env w) (hs : s.size ≤ maxLen) :
    Calls Tryz.prog 12 #[.string s] w (ParseFPost (bl s) w) := by
  have HS := Lib.hid hs
  have O0 : Hid (FxBox (w.alloc (.cells #[.string ⟨#[]⟩, .string ⟨#[]⟩, .int .u8 0, .int .i64 0, .int .i64 0, .int .i64 0, .int .i64 0] 34)) w.heap.size fx0) := heap_alloc_new w _
  have HB0 : Hid (Below w.heap.size w (w.alloc (.cells #[.string ⟨#[]⟩, .string ⟨#[]⟩, .int .u8 0, .int .i64 0, .int .i64 0, .int .i64 0, .int .i64 0] 34))) := (Below.refl _ _).alloc (Nat.le_refl _) _
  have E0 : Env (w.alloc (.cells #[.string ⟨#[]⟩, .string ⟨#[]⟩, .int .u8 0, .int .i64 0, .int .i64 0, .int .i64 0, .int .i64 0] 34)) := E.alloc _
  clear hs
  go_enter Tryz.func12, Tryz.ntmps12
  go_wp2_with fail
  refine (split_any s _ E0 HS.out).mono ?_
  rintro e w1 ⟨v, rfl, hr, hb1⟩
  have O1 := Lib.hid (O0.out.below hb1)
  have HB1 := Lib.hid (HB0.out.trans (hb1.mono (by simp)))
  have E1 := E.below HB1.out
  obtain ⟨sc, hsc⟩ : ∃ x, splitCol (bl s) = x := ⟨_, rfl⟩
  obtain ⟨se, hse⟩ : ∃ x, splitErr (bl s) = x := ⟨_, rfl⟩
  rw [hsc, hse]
  have HSE := Lib.hid hse
  have HR := Lib.hid hr
  clear hsc hse hb1 hr
  obtain ⟨r0, r1, r2, r3, r4, r5, r6⟩ : FxCells w1 w.heap.size ⟨#[]⟩ ⟨#[]⟩ 0 0 0 0 0 := O1.out.cells
  have q0 : w1.frozen? ⟨w.heap.size, 0, none⟩ = false := frozen_of_row w1 _ _ _ _ O1.out
  have q1 : w1.frozen? ⟨w.heap.size, 1, none⟩ = false := frozen_of_row w1 _ _ _ _ O1.out
  have q2 : w1.frozen? ⟨w.heap.size, 2, none⟩ = false := frozen_of_row w1 _ _ _ _ O1.out
  have q3 : w1.frozen? ⟨w.heap.size, 3, none⟩ = false := frozen_of_row w1 _ _ _ _ O1.out
  have q4 : w1.frozen? ⟨w.heap.size, 4, none⟩ = false := frozen_of_row w1 _ _ _ _ O1.out
  have q5 : w1.frozen? ⟨w.heap.size, 5, none⟩ = false := frozen_of_row w1 _ _ _ _ O1.out
  have q6 : w1.frozen? ⟨w.heap.size, 6, none⟩ = false := frozen_of_row w1 _ _ _ _ O1.out
  have hl1 := lt_heap O1.out
  by_cases h0 : se = 0
  · have e1 : (se != 0) = false := bne_eq_false_iff_eq.2 h0
    have HPF : Hid (paF (bl s) = tkOut (paS (bl s))) := by unfold Hid paF; rw [HSE.out, if_pos h0]
    have HPE : Hid (paE (bl s) = (tk6 (paS (bl s))).endE) := by unfold Hid paE; rw [HSE.out, if_pos h0]
    have HSM := Lib.hid (splitF_small (bl s))
    obtain ⟨fs, hfs⟩ : ∃ fs, splitF (bl s) = fs := ⟨_, rfl⟩
    have HPS : Hid (paS (bl s) = scan0 1 (fldI fs)) := by unfold Hid paS; rw [hfs]
    rw [hfs] at HR HSM
    rw [HPS.out] at HPF HPE
    obtain ⟨A, c, rfl, hc, hm⟩ := HR.out.1.form
    unfold maxLen at hm
    obtain ⟨n, hn⟩ : ∃ n, fs.length = n := ⟨_, rfl⟩
    rw [hn] at HR hc ⊢
    have HFR : Hid (FsR w1 w1.heap.size (.slice A n c) (fldI fs)) := fsr_of (by rw [hn]; exact HR.out) HSM.out.1
    have HNN : Hid ((fldI fs).length ≤ 1000000000000) := by unfold Hid; rw [fldI_len]; have := HSM.out.2; omega
    have HFL := Lib.hid (fldI_small HSM.out.1 (show 200 ≤ 140737488351232 by omega))
    have hnl : Hid (fs.length = n) := hn
    clear h0 hfs hn
    go_wp2_with fail
    refine (takeF_any 1 _ (fldI fs) _ E1 HFR.out HNN.out HFL.out).mono ?_
    rintro e w2 ⟨rfl, hb2⟩
    obtain ⟨S, hS⟩ : ∃ S, scan0 1 (fldI fs) = S := ⟨_, rfl⟩
    rw [hS] at HPF HPE ⊢
    obtain ⟨F, hF⟩ : ∃ F, tkOut S = F := ⟨_, rfl⟩
    rw [hF]
    obtain ⟨el, hel⟩ : ∃ x, (tk6 S).endL = x := ⟨_, rfl⟩
    obtain ⟨ec, hec⟩ : ∃ x, (tk6 S).endC = x := ⟨_, rfl⟩
    obtain ⟨ee, hee⟩ : ∃ x, (tk6 S).endE = x := ⟨_, rfl⟩
    have HEB : Hid ((tk6 S).endB = true ↔ ee ≠ 0) := by rw [← hee]; exact endB_E
    have HF := Lib.hid (HPF.out.trans hF)
    have HEE := Lib.hid (HPE.out.trans hee)
    have HBAD : Hid ((tk6 S).endB = true → F = fx0) := by intro h; rw [← hF]; unfold tkOut; rw [if_pos h]
    rw [hel, hec, hee]
    have O2 := Lib.hid (O1.out.below hb2)
    have HB2 := Lib.hid (Below.then_ HB1.out hb2)
    clear hF hel hec hee hb2 r0 r1 r2 r3 r4 r5 r6 q0 q1 q2 q3 q4 q5 q6 hl1 hS
    obtain ⟨r0, r1, r2, r3, r4, r5, r6⟩ : FxCells w2 w.heap.size ⟨#[]⟩ ⟨#[]⟩ 0 0 0 0 0 := O2.out.cells
    have q0 : w2.frozen? ⟨w.heap.size, 0, none⟩ = false := frozen_of_row w2 _ _ _ _ O2.out
    have q1 : w2.frozen? ⟨w.heap.size, 1, none⟩ = false := frozen_of_row w2 _ _ _ _ O2.out
    have q2 : w2.frozen? ⟨w.heap.size, 2, none⟩ = false := frozen_of_row w2 _ _ _ _ O2.out
    have q3 : w2.frozen? ⟨w.heap.size, 3, none⟩ = false := frozen_of_row w2 _ _ _ _ O2.out
    have q4 : w2.frozen? ⟨w.heap.size, 4, none⟩ = false := frozen_of_row w2 _ _ _ _ O2.out
    have q5 : w2.frozen? ⟨w.heap.size, 5, none⟩ = false := frozen_of_row w2 _ _ _ _ O2.out
    have q6 : w2.frozen? ⟨w.heap.size, 6, none⟩ = false := frozen_of_row w2 _ _ _ _ O2.out
    have hl1 := lt_heap O2.out
    obtain ⟨id, rg, kd, la, lo, ev, ra⟩ := F
    cases hb : (tk6 S).endB
    · have hz : ee = 0 := by
        rcases Classical.em (ee = 0) with h | h
        · exact h
        · rw [HEB.out.2 h] at hb; cases hb
      have HZ := Lib.hid hz
      clear hb hz
      go_wp2
      exact bodyPost_ret (v := .tuple #[.agg #[.string (sb id), .string (sb rg), .int .u8 (kd : Int), .int .i64 la, .int .i64 lo, .int .i64 ev, .int .i64 ra], .int .i64 0]) (by simp [results, Tryz.results12, go_sem, r0, r1, r2, r3, r4, r5, r6, hl1]) rfl (ParseFPost.mk HF.out (HEE.out.trans HZ.out) (by repeat (first | with_reducible exact HB2.out | with_reducible refine Below.setCell ?_ (by first | (simp; done) | (simp; omega)) _ | with_reducible refine Below.drew ?_ | with_reducible refine below_drewN' ?_ _ | with_reducible refine Below.alloc ?_ (by first | (simp; done) | (simp; omega)) _)))
    · have HFZ := Lib.hid (HBAD.out hb)
      clear hb
      go_wp2
      go_region
      go_wp2
      exact bodyPost_ret (v := .tuple #[.agg #[.string ⟨#[]⟩, .string ⟨#[]⟩, .int .u8 0, .int .i64 0, .int .i64 0, .int .i64 0, .int .i64 0], .int .i64 ee]) (by simp [results, Tryz.results12, go_sem, r0, r1, r2, r3, r4, r5, r6, hl1]) rfl (ParseFPost.mk (f := fx0) (HF.out.trans HFZ.out) HEE.out (by repeat (first | with_reducible exact HB2.out | with_reducible refine Below.setCell ?_ (by first | (simp; done) | (simp; omega)) _ | with_reducible refine Below.drew ?_ | with_reducible refine below_drewN' ?_ _ | with_reducible refine Below.alloc ?_ (by first | (simp; done) | (simp; omega)) _)))
  · have e1 : (se != 0) = true := bne_iff_ne.2 h0
    have HPF : Hid (paF (bl s) = fx0) := by unfold Hid paF; rw [HSE.out, if_neg h0]
    have HPE : Hid (paE (bl s) = se) := by unfold Hid paE; rw [HSE.out, if_neg h0]
    clear h0
    go_wp2
    exact bodyPost_ret (v := .tuple #[.agg #[.string ⟨#[]⟩, .string ⟨#[]⟩, .int .u8 0, .int .i64 0, .int .i64 0, .int .i64 0, .int .i64 0], .int .i64 se]) (by simp [results, Tryz.results12, go_sem, r0, r1, r2, r3, r4, r5, r6, hl1]) rfl (ParseFPost.mk (f := fx0) HPF.out HPE.out (by repeat (first | with_reducible exact HB1.out | with_reducible refine Below.setCell ?_ (by first | (simp; done) | (simp; omega)) _ | with_reducible refine Below.drew ?_ | with_reducible refine below_drewN' ?_ _ | with_reducible refine Below.alloc ?_ (by first | (simp; done) | (simp; omega)) _)))
end Go.Proofs.YteojggbmkppjoaaGreatDoor
namespace Go.Proofs.YteojggbmkppjoaaGreatDoor
open Go.RowKit
set_option linter.unusedVariables false
set_option linter.unusedSimpArgs false

theorem nameB_len6 {l : List UInt8} (h : nameB l 6 = true) : l.length ≤ 6 := by
  unfold nameB at h
  simp only [Bool.and_eq_true, decide_eq_true_eq] at h
  omega
theorem identE_len {l : List UInt8} {k : Nat} (h : identE l k = 0) : l.length ≤ 6 := by
  unfold identE at h
  split at h
  · rename_i h2; rw [Bool.and_eq_true] at h2; exact nameB_len6 h2.1
  · cases h
theorem locE_len {l : List UInt8} {k : Nat} (h : locE l k = 0) : l.length ≤ 6 := by
  unfold locE at h
  split at h
  · rename_i h2
    simp only [Bool.or_eq_true, Bool.and_eq_true] at h2
    rcases h2 with ⟨_, h2⟩ | ⟨_, h2⟩
    · exact nameB_len6 h2
    · unfold shortB at h2; rw [Bool.and_eq_true, beq_iff_eq] at h2; omega
  · cases h
/-- what a valid fix is -/
theorem fixE_ok {f : Fx} (h : fixE f = 0) : (1 ≤ f.kd ∧ f.kd ≤ 6) ∧ identE f.id f.kd = 0 ∧ locE f.rg f.kd = 0 ∧ posB f.lat f.lon = true ∧ elE f.kd f.el = 0 ∧ raE f.kd f.ra = 0 := by
  unfold fixE at h
  split at h
  · cases h
  · split at h
    · cases h
    · split at h
      · cases h
      · split at h
        · cases h
        · rename_i h1 h2 h3 h4
          split at h
          · rename_i h5; exact absurd h h5
          · rename_i h5
            exact ⟨by omega, by simpa using h2, by simpa using h3, by simpa using h4, by simpa using h5, h⟩
theorem kw_lit (w : World) (k : Nat) (h : 1 ≤ k ∧ k ≤ 6) : (w.alloc (.cells #[.string ⟨#[87, 65, 89, 80, 79, 73, 78, 84]⟩, .string ⟨#[86, 79, 82]⟩, .string ⟨#[68, 77, 69]⟩, .string ⟨#[78, 68, 66]⟩, .string ⟨#[65, 73, 82, 80, 79, 82, 84]⟩, .string ⟨#[82, 85, 78, 87, 65, 89]⟩] 9)).cell? ⟨w.heap.size, k - 1, none⟩ = some (.string (sb (kindWord k))) := by
  obtain ⟨h1, h2⟩ := h
  match k, h1, h2 with
  | 1, _, _ => simp [go_sem]; rfl
  | 2, _, _ => simp [go_sem]; rfl
  | 3, _, _ => simp [go_sem]; rfl
  | 4, _, _ => simp [go_sem]; rfl
  | 5, _, _ => simp [go_sem]; rfl
  | 6, _, _ => simp [go_sem]; rfl
theorem kindWord_len (k : Nat) : (kindWord k).length ≤ 8 := by
  unfold kindWord
  rw [List.getD_eq_getElem?_getD]
  match k - 1 with
  | 0 | 1 | 2 | 3 | 4 | 5 => decide
  | n + 6 => exact Nat.zero_le _
theorem kwl_any (w : World) : Calls Tryz.prog 31 #[] w fun e w' => e = .returned (.slice (some ⟨w.heap.size, 0, none⟩) 6 6) ∧ w' = w.alloc (.cells #[.string ⟨#[87, 65, 89, 80, 79, 73, 78, 84]⟩, .string ⟨#[86, 79, 82]⟩, .string ⟨#[68, 77, 69]⟩, .string ⟨#[78, 68, 66]⟩, .string ⟨#[65, 73, 82, 80, 79, 82, 84]⟩, .string ⟨#[82, 85, 78, 87, 65, 89]⟩] 9) := by
  go_enter Tryz.func31, Tryz.ntmps31
  go_wp2
  go_ret
  exact ⟨rfl, rfl⟩
def TextFPost (f : Fx) (w : World) (e : Ending) (w' : World) : Prop := ∃ t : ByteArray, e = .returned (.tuple #[.string t, .int .i64 (fixE f)]) ∧ Hid (bl t = fxOut f) ∧ Below w.heap.size w w'
theorem TextFPost.mk {f : Fx} {w w' : World} {t : ByteArray} {er : Int} (h1 : fixE f = er) (h2 : bl t = fxOut f) (hb : Below w.heap.size w w') : TextFPost f w (.returned (.tuple #[.string t, .int .i64 er])) w' := by
  subst h1; exact ⟨t, rfl, h2, hb⟩
/-- the line, but for its last field -/
def fxHead (f : Fx) : List UInt8 := kindWord f.kd ++ 32 :: (f.id ++ 32 :: (f.rg ++ 32 :: posOut f.lat f.lon))
theorem fxOut_ok {f : Fx} (h : fixE f = 0) : fxOut f = fxHead f ++ ((if elevB f.kd then 32 :: altOut f.el else []) ++ (if navB f.kd then 32 :: distOut f.ra else [])) := by
  unfold fxOut; rw [if_pos h]; unfold fxLine fxHead; simp only [List.append_assoc, List.cons_append]
theorem fxOut_bad {f : Fx} (h : fixE f ≠ 0) : fxOut f = [] := by unfold fxOut; rw [if_neg h]
theorem posOut_len (a b : Int) : (posOut a b).length ≤ 19 := by
  unfold posOut
  split
  · rw [List.length_append]
    have l1 : (latOut a).length ≤ 9 := by unfold latOut; split <;> first | (rw [sgnText_len]; omega) | simp
    have l2 : (lonOut b).length ≤ 10 := by unfold lonOut; split <;> first | (rw [sgnText_len]; omega) | simp
    omega
  · simp
theorem fxHead_len {f : Fx} (h1 : f.id.length ≤ 6) (h2 : f.rg.length ≤ 6) : (fxHead f).length ≤ 60 := by
  unfold fxHead
  have := kindWord_len f.kd
  have := posOut_len f.lat f.lon
  simp only [List.length_append, List.length_cons]
  omega
theorem join4 (a b c d : List UInt8) : Lib.join [a, b, c, d] [32] = a ++ 32 :: (b ++ 32 :: (c ++ 32 :: d)) := by
  rw [Lib.join_cons]; unfold Lib.joinTail; simp
end Go.Proofs.YteojggbmkppjoaaGreatDoor
