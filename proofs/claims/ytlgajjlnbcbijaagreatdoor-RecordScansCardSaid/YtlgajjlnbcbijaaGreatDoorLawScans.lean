/-
  The walk of the law RecordScans.
-/
import Derived.Test.YtlgajjlnbcbijaaGreatDoorLawNil
import Derived.Test.YtlgajjlnbcbijaaGreatDoorFldI
namespace Go.Proofs.YtlgajjlnbcbijaaGreatDoor
open Go.RowKit
set_option linter.unusedVariables false
set_option linter.unusedSimpArgs false

/-- two scanners in memory, the program's and the reference's -/
structure Two (w0 : World) (ga gb : Nat) (s t : Sc) (w : World) : Prop where
  pa : ScP w ga s
  qb : ScQ w gb t
  ab : ga < gb
  b0 : Below w0.heap.size w0 w
  ha : w0.heap.size ≤ ga
theorem Two.then_ {w0 w w' : World} {ga gb : Nat} {s t : Sc} (h : Two w0 ga gb s t w) (hb : Below w.heap.size w w') : Two w0 ga gb s t w' :=
  ⟨h.pa.below hb, h.qb.below hb, h.ab, Below.then_ h.b0 hb, h.ha⟩
theorem scC_nostr (s : Sc) (v : Value) (A : Option Addr) (n c j : Nat) (b : ByteArray) (hv : v = .slice A n c) : (scC s v)[j]? ≠ some (.string b) := by
  subst hv
  unfold scC
  match j with
  | 0 | 1 | 2 | 3 | 4 | 5 | 6 => simp
  | j + 7 => simp
theorem Two.stepA {w0 w w' : World} {ga gb : Nat} {s t s' : Sc} (h : Two w0 ga gb s t w) (hp : ScPost s' ga w w') : Two w0 ga gb s' t w' := by
  refine ⟨hp.1, ?_, h.ab, hp.2.below h.b0 h.ha (Nat.le_trans h.ha (Nat.le_of_lt h.pa.lt)), h.ha⟩
  obtain ⟨_, v, hb, A, c, hv, _⟩ := h.pa
  obtain ⟨h1, u, h2, B, d, hu, hc, hm, hf, hr⟩ := h.qb
  have hgb := h.qb.lt
  refine ⟨h1, u, (hp.2.block gb hgb (by intro e; injection e with e; have := h.ab; omega)).trans h2, B, d, hu, hc, hm, hf, fun h0 => ?_⟩
  obtain ⟨b, o, hB, hlt, hx⟩ := hr h0
  refine ⟨b, o, hB, hlt, fun j x hj => ?_⟩
  have hne : b ≠ ga := by
    rintro rfl
    have h3 := hx 0 _ (ficells_at t.fs 0 h0).1
    rw [Lib.cell_of_heap hb] at h3
    exact scC_nostr s v A _ c _ _ hv h3
  exact (hp.2.cell (Nat.lt_trans hlt hgb) hne).trans (hx j x hj)
theorem Two.stepB {w0 w w' : World} {ga gb : Nat} {s t t' : Sc} (h : Two w0 ga gb s t w) (hp : ScQPost t' gb w w') : Two w0 ga gb s t' w' := by
  refine ⟨h.pa.keep fun k hk => hp.2.block k (Nat.lt_of_le_of_lt hk h.pa.lt) (by intro e; injection e with e; have := h.ab; omega), hp.1, h.ab, ?_, h.ha⟩
  exact hp.2.below h.b0 (by have := h.ab; have := h.ha; omega) (Nat.le_trans h.ha (Nat.le_of_lt h.pa.lt))
/-- fields of a short line -/
def ShortF (fs : List FldI) : Prop := fs.length ≤ 1000 ∧ (joinL (fs.map (·.1))).length ≤ 1000000 ∧ ∀ f ∈ fs, f.1.length ≤ 1000
def ScanPostT (w0 : World) (ga gb : Nat) (fs : List FldI) (e : Ending) (w' : World) : Prop := e = .returned (.bool true) ∧ ∃ s', s'.fs = fs ∧ Two w0 ga gb s' s' w'
theorem ShortF.text {s : Sc} (h : ShortF s.fs) : s.text.length ≤ 140737488351232 := by
  unfold Sc.text
  split
  · unfold fld
    rcases Nat.lt_or_ge s.nx s.fs.length with h1 | h1
    · rw [List.getD_eq_getElem?_getD, List.getElem?_eq_getElem h1]
      have := h.2.2 _ (List.getElem_mem h1)
      simp only [Option.getD_some]; omega
    · rw [List.getD_eq_getElem?_getD, List.getElem?_eq_none h1]; simp
  · simp
theorem join_drop_len : ∀ (l : List (List UInt8)) (k : Nat), (joinL (l.drop k)).length ≤ (joinL l).length
  | [], k => by simp
  | x :: l, 0 => by simp
  | x :: l, k + 1 => by
    rw [List.drop_succ_cons]
    refine Nat.le_trans (join_drop_len l k) ?_
    cases l with
    | nil => unfold joinL; simp [Lib.join_nil]
    | cons y r => unfold joinL; rw [Lib.join_cons x, Lib.join_cons y, List.length_append, List.length_append]; unfold Lib.joinTail; simp; omega
theorem ShortF.rest {s : Sc} (h : ShortF s.fs) : s.restV.length ≤ 1100000000 := by
  unfold Sc.restV
  split
  · simp
  · rw [List.map_drop]; have := join_drop_len (s.fs.map (·.1)) s.nx; have := h.2.1; omega
theorem tk_fs (s : Sc) (er : List UInt8 → Int) : (s.tk er).fs = s.fs := by
  unfold Sc.tk; split
  · rw [Sc.note_fs, Sc.take_fs]
  · rw [Sc.take_fs]
def scanWords : List (List UInt8) := [[65], [83, 69, 84], [65], [49, 50]]
def wordRow (T : TypeId) : Obj := .cells #[.string ⟨#[65]⟩, .string ⟨#[83, 69, 84]⟩, .string ⟨#[65]⟩, .string ⟨#[49, 50]⟩] T
theorem wdr_new (w : World) (g : Nat) (hg : g < w.heap.size) : WdR (w.alloc (.cells #[.string ⟨#[65]⟩, .string ⟨#[83, 69, 84]⟩, .string ⟨#[65]⟩, .string ⟨#[49, 50]⟩] 9)) g (.slice (some ⟨w.heap.size, 0, none⟩) 4 4) scanWords := by
  refine ⟨_, _, rfl, Nat.le_refl _, by unfold maxLen; decide, fun _ => ⟨w.heap.size, 0, rfl, by simp, by omega, fun k hk => ?_⟩⟩
  match k, hk with
  | 0, _ => simp [go_sem]; rfl
  | 1, _ => simp [go_sem]; rfl
  | 2, _ => simp [go_sem]; rfl
  | 3, _ => simp [go_sem]; rfl
theorem str_self (x : List UInt8) : ((sb x).toList == (sb x).toList) = true := by simp
theorem Two.alloc {w0 w : World} {ga gb : Nat} {s t : Sc} (h : Two w0 ga gb s t w) (o : Obj) : Two w0 ga gb s t (w.alloc o) := h.then_ ((Below.refl _ _).alloc (Nat.le_refl _) o)
theorem Two.env {w0 w : World} {ga gb : Nat} {s t : Sc} (h : Two w0 ga gb s t w) (E : Env w0) : Env w := E.below h.b0
theorem Two.ng {w0 w : World} {ga gb : Nat} {s t : Sc} (h : Two w0 ga gb s t w) (E : Env w0) : 8 ≤ ga ∧ 8 ≤ gb := by
  have := E.size; have := h.ha; have := h.ab; omega
set_option maxRecDepth 100000 in
set_option maxHeartbeats 1000000 in
theorem scanned0 (er : Int) (s : Sc) (w0 : World) (ga gb : Nat) (w : World) (E : Env w0) (T : Two w0 ga gb s s w) (hS : ShortF s.fs) :
    Calls Tryz.prog 28 #[.pointer (some ⟨ga, 0, none⟩), .pointer (some ⟨gb, 0, none⟩), .int .i64 0, .int .i64 er] w (ScanPostT w0 ga gb s.fs) := by
  have T0 := Lib.hid T
  have HT := Lib.hid hS.text
  have HR := Lib.hid hS.rest
  have HL : Hid (s.fs.length ≤ 1048576) := by have := hS.1; unfold Hid; omega
  clear T hS
  go_enter Tryz.func28, Tryz.ntmps28
  go_wp2_with fail
  refine (field_any s ga _ T0.out.pa).mono ?_
  rintro e w1 ⟨rfl, hp⟩
  have T1 := Lib.hid (by first | exact T0.out.stepA hp | exact (T0.out.alloc _).stepA hp : Two w0 ga gb _ s w1)
  clear hp
  go_wp2_with fail
  refine (rfield_any s gb _ T1.out.qb).mono ?_
  rintro e w2 ⟨rfl, hp⟩
  have T2 := Lib.hid (by first | exact T1.out.stepB hp | exact (T1.out.alloc _).stepB hp : Two w0 ga gb _ _ w2)
  clear hp
  go_wp2
  go_ret
  exact ⟨rfl, _, Sc.take_fs s, T2.out⟩
set_option maxRecDepth 100000 in
set_option maxHeartbeats 1000000 in
theorem scanned1 (er : Int) (s : Sc) (w0 : World) (ga gb : Nat) (w : World) (E : Env w0) (T : Two w0 ga gb s s w) (hS : ShortF s.fs) :
    Calls Tryz.prog 28 #[.pointer (some ⟨ga, 0, none⟩), .pointer (some ⟨gb, 0, none⟩), .int .i64 1, .int .i64 er] w (ScanPostT w0 ga gb s.fs) := by
  have T0 := Lib.hid T
  have HT := Lib.hid hS.text
  have HR := Lib.hid hS.rest
  have HL : Hid (s.fs.length ≤ 1048576) := by have := hS.1; unfold Hid; omega
  clear T hS
  go_enter Tryz.func28, Tryz.ntmps28
  go_wp2_with fail
  refine (word_any s ga _ scanWords _ (T0.out.alloc _).pa (wdr_new _ ga T0.out.pa.lt)).mono ?_
  rintro e w1 ⟨rfl, hp⟩
  have T1 := Lib.hid (by first | exact T0.out.stepA hp | exact (T0.out.alloc _).stepA hp : Two w0 ga gb _ s w1)
  clear hp
  go_wp2_with fail
  refine (rword_any s gb _ scanWords _ (T1.out.alloc _).qb (wdr_new _ gb T1.out.qb.lt)).mono ?_
  rintro e w2 ⟨rfl, hp⟩
  have T2 := Lib.hid (by first | exact T1.out.stepB hp | exact (T1.out.alloc _).stepB hp : Two w0 ga gb _ _ w2)
  clear hp
  go_wp2
  go_ret
  exact ⟨rfl, _, tk_fs s _, T2.out⟩
set_option maxRecDepth 100000 in
set_option maxHeartbeats 1000000 in
theorem scanned2 (er : Int) (s : Sc) (w0 : World) (ga gb : Nat) (w : World) (E : Env w0) (T : Two w0 ga gb s s w) (hS : ShortF s.fs) :
    Calls Tryz.prog 28 #[.pointer (some ⟨ga, 0, none⟩), .pointer (some ⟨gb, 0, none⟩), .int .i64 2, .int .i64 er] w (ScanPostT w0 ga gb s.fs) := by
  have T0 := Lib.hid T
  have HT := Lib.hid hS.text
  have HR := Lib.hid hS.rest
  have HL : Hid (s.fs.length ≤ 1048576) := by have := hS.1; unfold Hid; omega
  clear T hS
  go_enter Tryz.func28, Tryz.ntmps28
  go_wp2_with fail
  refine (nameS_any 4 s ga _ HT.out T0.out.pa).mono ?_
  rintro e w1 ⟨rfl, hp⟩
  have T1 := Lib.hid (by first | exact T0.out.stepA hp | exact (T0.out.alloc _).stepA hp : Two w0 ga gb _ s w1)
  clear hp
  go_wp2_with fail
  refine (rnameS_any 4 s gb _ HT.out T1.out.qb).mono ?_
  rintro e w2 ⟨rfl, hp⟩
  have T2 := Lib.hid (by first | exact T1.out.stepB hp | exact (T1.out.alloc _).stepB hp : Two w0 ga gb _ _ w2)
  clear hp
  go_wp2
  go_ret
  exact ⟨rfl, _, tk_fs s _, T2.out⟩
set_option maxRecDepth 100000 in
set_option maxHeartbeats 1000000 in
theorem scanned3 (er : Int) (s : Sc) (w0 : World) (ga gb : Nat) (w : World) (E : Env w0) (T : Two w0 ga gb s s w) (hS : ShortF s.fs) :
    Calls Tryz.prog 28 #[.pointer (some ⟨ga, 0, none⟩), .pointer (some ⟨gb, 0, none⟩), .int .i64 3, .int .i64 er] w (ScanPostT w0 ga gb s.fs) := by
  have T0 := Lib.hid T
  have HT := Lib.hid hS.text
  have HR := Lib.hid hS.rest
  have HL : Hid (s.fs.length ≤ 1048576) := by have := hS.1; unfold Hid; omega
  clear T hS
  go_enter Tryz.func28, Tryz.ntmps28
  go_wp2_with fail
  refine (numS_any (-5) 99 s ga _ (T0.out.env E) (T0.out.ng E).1 HT.out T0.out.pa).mono ?_
  rintro e w1 ⟨rfl, hp⟩
  have T1 := Lib.hid (by first | exact T0.out.stepA hp | exact (T0.out.alloc _).stepA hp : Two w0 ga gb _ s w1)
  clear hp
  go_wp2_with fail
  refine (rnumS_any (-5) 99 s gb _ HT.out T1.out.qb).mono ?_
  rintro e w2 ⟨rfl, hp⟩
  have T2 := Lib.hid (by first | exact T1.out.stepB hp | exact (T1.out.alloc _).stepB hp : Two w0 ga gb _ _ w2)
  clear hp
  go_wp2
  go_ret
  exact ⟨rfl, _, tk_fs s _, T2.out⟩
set_option maxRecDepth 100000 in
set_option maxHeartbeats 1000000 in
theorem scanned4 (er : Int) (s : Sc) (w0 : World) (ga gb : Nat) (w : World) (E : Env w0) (T : Two w0 ga gb s s w) (hS : ShortF s.fs) :
    Calls Tryz.prog 28 #[.pointer (some ⟨ga, 0, none⟩), .pointer (some ⟨gb, 0, none⟩), .int .i64 4, .int .i64 er] w (ScanPostT w0 ga gb s.fs) := by
  have T0 := Lib.hid T
  have HT := Lib.hid hS.text
  have HR := Lib.hid hS.rest
  have HL : Hid (s.fs.length ≤ 1048576) := by have := hS.1; unfold Hid; omega
  clear T hS
  go_enter Tryz.func28, Tryz.ntmps28
  go_wp2_with fail
  refine (posS_any s ga _ HT.out T0.out.pa).mono ?_
  rintro e w1 ⟨rfl, hp⟩
  have T1 := Lib.hid (by first | exact T0.out.stepA hp | exact (T0.out.alloc _).stepA hp : Two w0 ga gb _ s w1)
  clear hp
  go_wp2_with fail
  refine (rposS_any s gb _ HT.out T1.out.qb).mono ?_
  rintro e w2 ⟨rfl, hp⟩
  have T2 := Lib.hid (by first | exact T1.out.stepB hp | exact (T1.out.alloc _).stepB hp : Two w0 ga gb _ _ w2)
  clear hp
  go_wp2
  go_ret
  exact ⟨rfl, _, tk_fs s _, T2.out⟩
set_option maxRecDepth 100000 in
set_option maxHeartbeats 1000000 in
theorem scanned5 (er : Int) (s : Sc) (w0 : World) (ga gb : Nat) (w : World) (E : Env w0) (T : Two w0 ga gb s s w) (hS : ShortF s.fs) :
    Calls Tryz.prog 28 #[.pointer (some ⟨ga, 0, none⟩), .pointer (some ⟨gb, 0, none⟩), .int .i64 5, .int .i64 er] w (ScanPostT w0 ga gb s.fs) := by
  have T0 := Lib.hid T
  have HT := Lib.hid hS.text
  have HR := Lib.hid hS.rest
  have HL : Hid (s.fs.length ≤ 1048576) := by have := hS.1; unfold Hid; omega
  clear T hS
  go_enter Tryz.func28, Tryz.ntmps28
  go_wp2_with fail
  refine (altS_any s ga _ (T0.out.env E) HT.out (T0.out.ng E).1 T0.out.pa).mono ?_
  rintro e w1 ⟨rfl, hp⟩
  have T1 := Lib.hid (by first | exact T0.out.stepA hp | exact (T0.out.alloc _).stepA hp : Two w0 ga gb _ s w1)
  clear hp
  go_wp2_with fail
  refine (raltS_any s gb _ HT.out T1.out.qb).mono ?_
  rintro e w2 ⟨rfl, hp⟩
  have T2 := Lib.hid (by first | exact T1.out.stepB hp | exact (T1.out.alloc _).stepB hp : Two w0 ga gb _ _ w2)
  clear hp
  go_wp2
  go_ret
  exact ⟨rfl, _, tk_fs s _, T2.out⟩
set_option maxRecDepth 100000 in
set_option maxHeartbeats 1000000 in
theorem scanned6 (er : Int) (s : Sc) (w0 : World) (ga gb : Nat) (w : World) (E : Env w0) (T : Two w0 ga gb s s w) (hS : ShortF s.fs) :
    Calls Tryz.prog 28 #[.pointer (some ⟨ga, 0, none⟩), .pointer (some ⟨gb, 0, none⟩), .int .i64 6, .int .i64 er] w (ScanPostT w0 ga gb s.fs) := by
  have T0 := Lib.hid T
  have HT := Lib.hid hS.text
  have HR := Lib.hid hS.rest
  have HL : Hid (s.fs.length ≤ 1048576) := by have := hS.1; unfold Hid; omega
  clear T hS
  go_enter Tryz.func28, Tryz.ntmps28
  go_wp2_with fail
  refine (winS_any s ga _ (T0.out.env E) (T0.out.ng E).1 HT.out T0.out.pa).mono ?_
  rintro e w1 ⟨rfl, hp⟩
  have T1 := Lib.hid (by first | exact T0.out.stepA hp | exact (T0.out.alloc _).stepA hp : Two w0 ga gb _ s w1)
  clear hp
  go_wp2_with fail
  refine (rwinS_any s gb _ HT.out T1.out.qb).mono ?_
  rintro e w2 ⟨rfl, hp⟩
  have T2 := Lib.hid (by first | exact T1.out.stepB hp | exact (T1.out.alloc _).stepB hp : Two w0 ga gb _ _ w2)
  clear hp
  go_wp2
  go_ret
  exact ⟨rfl, _, tk_fs s _, T2.out⟩
set_option maxRecDepth 100000 in
set_option maxHeartbeats 1000000 in
theorem scanned7 (er : Int) (s : Sc) (w0 : World) (ga gb : Nat) (w : World) (E : Env w0) (T : Two w0 ga gb s s w) (hS : ShortF s.fs) :
    Calls Tryz.prog 28 #[.pointer (some ⟨ga, 0, none⟩), .pointer (some ⟨gb, 0, none⟩), .int .i64 7, .int .i64 er] w (ScanPostT w0 ga gb s.fs) := by
  have T0 := Lib.hid T
  have HT := Lib.hid hS.text
  have HR := Lib.hid hS.rest
  have HL : Hid (s.fs.length ≤ 1048576) := by have := hS.1; unfold Hid; omega
  clear T hS
  go_enter Tryz.func28, Tryz.ntmps28
  go_wp2_with fail
  refine (distS_any s ga _ (T0.out.env E) HT.out (T0.out.ng E).1 T0.out.pa).mono ?_
  rintro e w1 ⟨rfl, hp⟩
  have T1 := Lib.hid (by first | exact T0.out.stepA hp | exact (T0.out.alloc _).stepA hp : Two w0 ga gb _ s w1)
  clear hp
  go_wp2_with fail
  refine (rdistS_any s gb _ HT.out T1.out.qb).mono ?_
  rintro e w2 ⟨rfl, hp⟩
  have T2 := Lib.hid (by first | exact T1.out.stepB hp | exact (T1.out.alloc _).stepB hp : Two w0 ga gb _ _ w2)
  clear hp
  go_wp2
  go_ret
  exact ⟨rfl, _, tk_fs s _, T2.out⟩
set_option maxRecDepth 100000 in
set_option maxHeartbeats 1000000 in
theorem scanned8 (er : Int) (s : Sc) (w0 : World) (ga gb : Nat) (w : World) (E : Env w0) (T : Two w0 ga gb s s w) (hS : ShortF s.fs) :
    Calls Tryz.prog 28 #[.pointer (some ⟨ga, 0, none⟩), .pointer (some ⟨gb, 0, none⟩), .int .i64 8, .int .i64 er] w (ScanPostT w0 ga gb s.fs) := by
  have T0 := Lib.hid T
  have HT := Lib.hid hS.text
  have HR := Lib.hid hS.rest
  have HL : Hid (s.fs.length ≤ 1048576) := by have := hS.1; unfold Hid; omega
  clear T hS
  go_enter Tryz.func28, Tryz.ntmps28
  go_wp2_with fail
  refine (rest_any s ga _ T0.out.pa HR.out HL.out).mono ?_
  rintro e w1 ⟨rfl, hp⟩
  have T1 := Lib.hid (by first | exact T0.out.stepA hp | exact (T0.out.alloc _).stepA hp : Two w0 ga gb _ s w1)
  clear hp
  go_wp2_with fail
  refine (rrest_any s gb _ T1.out.qb HR.out HL.out).mono ?_
  rintro e w2 ⟨rfl, hp⟩
  have T2 := Lib.hid (by first | exact T1.out.stepB hp | exact (T1.out.alloc _).stepB hp : Two w0 ga gb _ _ w2)
  clear hp
  go_wp2
  go_ret
  exact ⟨rfl, _, rest_fs s, T2.out⟩
set_option maxRecDepth 100000 in
set_option maxHeartbeats 1000000 in
theorem scanned9 (er : Int) (s : Sc) (w0 : World) (ga gb : Nat) (w : World) (E : Env w0) (T : Two w0 ga gb s s w) (hS : ShortF s.fs) :
    Calls Tryz.prog 28 #[.pointer (some ⟨ga, 0, none⟩), .pointer (some ⟨gb, 0, none⟩), .int .i64 9, .int .i64 er] w (ScanPostT w0 ga gb s.fs) := by
  have T0 := Lib.hid T
  have HT := Lib.hid hS.text
  have HR := Lib.hid hS.rest
  have HL : Hid (s.fs.length ≤ 1048576) := by have := hS.1; unfold Hid; omega
  clear T hS
  go_enter Tryz.func28, Tryz.ntmps28
  go_wp2_with fail
  refine (failS_any s er ga _ T0.out.pa).mono ?_
  rintro e w1 ⟨rfl, hp⟩
  have T1 := Lib.hid (by first | exact T0.out.stepA hp | exact (T0.out.alloc _).stepA hp : Two w0 ga gb _ s w1)
  clear hp
  go_wp2_with fail
  refine (rfailS_any s er gb _ T1.out.qb).mono ?_
  rintro e w2 ⟨rfl, hp⟩
  have T2 := Lib.hid (by first | exact T1.out.stepB hp | exact (T1.out.alloc _).stepB hp : Two w0 ga gb _ _ w2)
  clear hp
  go_wp2
  go_ret
  exact ⟨rfl, _, Sc.note_fs s _ _, T2.out⟩
theorem scanned_any (k er : Int) (s : Sc) (w0 : World) (ga gb : Nat) (w : World) (E : Env w0) (T : Two w0 ga gb s s w) (hS : ShortF s.fs) (h0 : 0 ≤ k) (h9 : k ≤ 9) :
    Calls Tryz.prog 28 #[.pointer (some ⟨ga, 0, none⟩), .pointer (some ⟨gb, 0, none⟩), .int .i64 k, .int .i64 er] w (ScanPostT w0 ga gb s.fs) := by
  obtain rfl | rfl | rfl | rfl | rfl | rfl | rfl | rfl | rfl | rfl : k = 0 ∨ k = 1 ∨ k = 2 ∨ k = 3 ∨ k = 4 ∨ k = 5 ∨ k = 6 ∨ k = 7 ∨ k = 8 ∨ k = 9 := by omega
  · exact scanned0 er s w0 ga gb w E T hS
  · exact scanned1 er s w0 ga gb w E T hS
  · exact scanned2 er s w0 ga gb w E T hS
  · exact scanned3 er s w0 ga gb w E T hS
  · exact scanned4 er s w0 ga gb w E T hS
  · exact scanned5 er s w0 ga gb w E T hS
  · exact scanned6 er s w0 ga gb w E T hS
  · exact scanned7 er s w0 ga gb w E T hS
  · exact scanned8 er s w0 ga gb w E T hS
  · exact scanned9 er s w0 ga gb w E T hS
/-- a slice of bytes that came in -/
def U8R (w : World) (v : Value) (zs : List Int) : Prop :=
  ∃ A c, v = .slice A zs.length c ∧ zs.length ≤ c ∧ c ≤ maxLen ∧ (∀ n ∈ zs, 0 ≤ n ∧ n ≤ 255) ∧ (0 < zs.length → ∃ g o, A = some ⟨g, o, none⟩ ∧ g < w.heap.size ∧ ∀ i (h : i < zs.length), w.cell? ⟨g, o + i, none⟩ = some (.int .u8 zs[i]))
theorem joinTail_sum (l : List (List UInt8)) : (Lib.joinTail [32] l).length = (l.map fun x => 1 + x.length).sum := by
  unfold Lib.joinTail
  induction l with
  | nil => rfl
  | cons x l ih =>
    simp only [List.map_cons, List.flatten_cons, List.length_append, List.sum_cons] at ih ⊢
    rw [ih]; rfl
theorem sum_le {l : List (List UInt8)} {M : Nat} (h : ∀ x ∈ l, x.length ≤ M) : (l.map fun x => 1 + x.length).sum ≤ l.length * (1 + M) := by
  induction l with
  | nil => simp
  | cons x l ih =>
    have h1 := h x (by simp)
    have h2 := ih fun y hy => h y (List.mem_cons_of_mem _ hy)
    rw [List.map_cons, List.sum_cons, List.length_cons, Nat.add_mul, Nat.one_mul]; omega
theorem joinL_le {l : List (List UInt8)} {M : Nat} (h : ∀ x ∈ l, x.length ≤ M) : (joinL l).length ≤ l.length * (1 + M) := by
  cases l with
  | nil => simp [joinL, Lib.join_nil]
  | cons x l =>
    unfold joinL
    rw [Lib.join_cons, List.length_append, joinTail_sum]
    have h1 := h x (by simp)
    have h2 := sum_le (l := l) fun y hy => h y (List.mem_cons_of_mem _ hy)
    rw [List.length_cons, Nat.add_mul, Nat.one_mul]; omega
theorem shortF_of (l : List UInt8) : ShortF (fldI (splitF l)) := by
  have h := splitF_small l
  have h2 := fldI_small (M := 200) h.1 (Nat.le_refl _)
  refine ⟨by rw [fldI_len]; omega, ?_, fun f hf => by have := h2 f hf; omega⟩
  have h3 := joinL_le (l := (fldI (splitF l)).map (·.1)) (M := 200) (by intro x hx; rw [List.mem_map] at hx; obtain ⟨f, hf, rfl⟩ := hx; exact h2 f hf)
  rw [List.length_map, fldI_len] at h3
  have : (splitF l).length * (1 + 200) ≤ 201 * 201 := Nat.mul_le_mul h.2 (Nat.le_refl _)
  omega
/-- a record in a box, its fields in memory -/
structure ScnS (w0 : World) (b : Nat) (v : Value) (fs : List FldI) (w : World) : Prop where
  b0 : Below w0.heap.size w0 w
  f : FsR w w.heap.size v fs
  k0 : w.cell? ⟨b, 0, none⟩ = some (.int .i64 7)
  k1 : w.cell? ⟨b, 1, none⟩ = some v
  lt : b < w.heap.size
theorem ScnS.then_ {w0 w w' : World} {b : Nat} {v : Value} {fs : List FldI} (h : ScnS w0 b v fs w) (hb : Below w.heap.size w w') : ScnS w0 b v fs w' :=
  ⟨Below.then_ h.b0 hb, (h.f.keep fun k hk => hb.block k hk).mono hb.size, (hb.cell (p := ⟨b, 0, none⟩) h.lt).trans h.k0, (hb.cell (p := ⟨b, 1, none⟩) h.lt).trans h.k1, Nat.lt_of_lt_of_le h.lt hb.size⟩
theorem ScnS.drew {w0 w : World} {b : Nat} {v : Value} {fs : List FldI} (h : ScnS w0 b v fs w) : ScnS w0 b v fs w.drew := h.then_ (Below.refl _ _).drew
theorem ScnS.drewN {w0 w : World} {b : Nat} {v : Value} {fs : List FldI} (h : ScnS w0 b v fs w) (k : Nat) : ScnS w0 b v fs (w.drewN k) := h.then_ (below_drewN' (Below.refl _ _) k)
theorem Two.drew {w0 w : World} {ga gb : Nat} {s t : Sc} (h : Two w0 ga gb s t w) : Two w0 ga gb s t w.drew := h.then_ (Below.refl _ _).drew
theorem Two.drewN {w0 w : World} {ga gb : Nat} {s t : Sc} (h : Two w0 ga gb s t w) (k : Nat) : Two w0 ga gb s t (w.drewN k) := h.then_ (below_drewN' (Below.refl _ _) k)
theorem scan0_left (num : Int) (fs : List FldI) : (scan0 num fs).fs = fs := rfl
set_option maxRecDepth 100000 in
set_option maxHeartbeats 4000000 in
theorem recordScans_walk (s : ByteArray) (v : Value) (zs : List Int) (er : Int) (w : World) (E : Env w) (hs : s.size ≤ maxLen) (hz : U8R w v zs) :
    Calls Tryz.prog 6 #[.string s, v, .int .i64 er] w fun e w' => e = .returned (.bool true) ∧ Below w.heap.size w w' := by
  obtain ⟨Az, cz, rfl, hzc, hzm, hzb, hzx⟩ := hz
  unfold maxLen at hzm
  have HZB := Lib.hid hzb
  have HZX := Lib.hid hzx
  obtain ⟨m, hm0⟩ : ∃ m, zs.length = m := ⟨_, rfl⟩
  have hzl := Nat.le_of_eq hm0
  rw [hm0] at hzc ⊢
  have HM := Lib.hid hm0
  clear hzb hzx hm0
  go_enter Tryz.func6, Tryz.ntmps6
  go_wp2_with fail
  refine (awake_any _ E).mono ?_
  rintro e w1 ⟨rfl, hb1⟩
  have HB1 := Lib.hid hb1
  clear hb1
  go_wp2_with fail
  refine (cut_any s 200 (by decide) (by decide) _ hs).mono ?_
  rintro e w2 ⟨t, rfl, ht, hts, hts2, rfl⟩
  go_wp2_with fail
  refine (rsplit_any t _ (Nat.le_trans hts2 hs)).mono ?_
  rintro e w3 ⟨fv, rfl, hr, hb3⟩
  obtain ⟨l, hl⟩ : ∃ l, bl t = l := ⟨_, rfl⟩
  rw [hl] at hr ⊢
  have HB3 := Lib.hid (Below.then_ HB1.out hb3)
  have HSF := Lib.hid (shortF_of l)
  have HFS : Hid (FsR w3 w3.heap.size fv (fldI (splitF l))) := fsr_of hr (splitF_small l).1
  obtain ⟨fs, hfs⟩ : ∃ fs, fldI (splitF l) = fs := ⟨_, rfl⟩
  rw [hfs] at HSF HFS
  obtain ⟨sc, hsc⟩ : ∃ x, splitCol l = x := ⟨_, rfl⟩
  obtain ⟨se, hse⟩ : ∃ x, splitErr l = x := ⟨_, rfl⟩
  rw [hsc, hse]
  clear ht hts hts2 hr hb3 hl hfs hsc hse
  by_cases h0 : se = 0
  · have e1 : (se != 0) = false := bne_eq_false_iff_eq.2 h0
    clear h0
    obtain ⟨A, c, rfl, hc, hm⟩ := fld_le HFS.out
    obtain ⟨n, hn⟩ : ∃ n, fs.length = n := ⟨_, rfl⟩
    rw [hn] at HFS hc ⊢
    clear hn
    have K3 : Hid (Below w3.heap.size w3 (w3.alloc (.cells #[.int .i64 7, .slice A n c] 66))) := (Below.refl _ _).alloc (Nat.le_refl _) _
    have Q : Hid (ScnS w w3.heap.size (.slice A n c) fs (w3.alloc (.cells #[.int .i64 7, .slice A n c] 66))) :=
      ⟨Below.then_ HB3.out K3.out, (HFS.out.keep fun k hk => K3.out.block k hk).mono (by simp), by simp [go_sem], by simp [go_sem], by simp⟩
    have HNB : Hid (fs.length ≤ 1000000000000) := by have := HSF.out.1; unfold Hid; omega
    have k0 := Q.out.k0
    have k1 := Q.out.k1
    have klt := Q.out.lt
    clear K3 HFS HB3
    go_wp2_with fail
    go_region_held3 (fun wx => wx.cell? ⟨w3.heap.size, 0, none⟩ = some (.int .i64 7) ∧ wx.cell? ⟨w3.heap.size, 1, none⟩ = some (.slice A n c))
      (first | go_keep | exact ⟨by assumption, by assumption⟩)
      (first
      | (go_at_call 26; refine (scan_any 7 _ fs _ (by first | exact Q.out.f | exact Q.out.drew.f | exact (Q.out.drewN _).f) HNB.out).mono ?_; rintro e wa ⟨ga, rfl, hga, hsa, hb⟩; have HGA : Hid (w.heap.size ≤ ga) := Nat.le_trans Q.out.b0.size hga; have Q := Lib.hid (by first | exact Q.out.then_ hb | exact Q.out.drew.then_ hb | exact (Q.out.drewN _).then_ hb : ScnS w w3.heap.size (.slice A n c) fs wa); have HSA := Lib.hid hsa; have k0 := Q.out.k0; have k1 := Q.out.k1; clear hb hsa hga)
      | (go_at_call 27; refine (rscan_any 7 _ fs _ (by first | exact Q.out.f | exact Q.out.drew.f | exact (Q.out.drewN _).f)).mono ?_; rintro e wb ⟨gb, rfl, hgb, hsb, hb⟩; have HT : Hid (Two w ga gb (scan0 7 fs) (scan0 7 fs) wb) := ⟨HSA.out.below hb, hsb, Nat.lt_of_lt_of_le HSA.out.lt hgb, (by first | exact (Q.out.then_ hb).b0 | exact (Q.out.drew.then_ hb).b0 | exact ((Q.out.drewN _).then_ hb).b0), HGA.out⟩; have Q := Lib.hid (by first | exact Q.out.then_ hb | exact Q.out.drew.then_ hb | exact (Q.out.drewN _).then_ hb : ScnS w w3.heap.size (.slice A n c) fs wb); have k0 := Q.out.k0; have k1 := Q.out.k1; clear hb hsb hgb)
      | fail)
    clear k0 k1 klt hc hm
    go_wp2_with fail
    go_loopw [13] (fun iv wr => ∃ (k : Nat) (s' : Sc), iv = .int .i64 k ∧ k ≤ m ∧ k ≤ 12 ∧ Hid (s'.fs = fs) ∧ Hid (Two w ga gb s' s' wr)) (fun iv _ => 12 - (intOf iv).toNat)
    case atStart => exact ⟨0, scan0 7 fs, rfl, Nat.zero_le _, by decide, rfl, HT⟩
    case round =>
      obtain ⟨k, s', rfl, hk, hk12, hfs, T0⟩ := hrel
      by_cases hlt : k < m
      · by_cases h12 : k < 12
        · obtain ⟨g, o, rfl, hg, hx⟩ := HZX.out (by have := HM.out; omega)
          have hkl : k < zs.length := by have := HM.out; omega
          have hc := (T0.out.b0.cell (p := ⟨g, o + k, none⟩) hg).trans (hx k hkl)
          have hzk := HZB.out _ (List.getElem_mem hkl)
          obtain ⟨x, hxx⟩ : ∃ x, zs[k] = x := ⟨_, rfl⟩
          rw [hxx] at hc hzk
          obtain ⟨hx0, hx1⟩ := hzk
          have hki : (k : Int) < (m : Int) := by omega
          have hki2 : (k : Int) < 12 := by omega
          clear hx hxx
          go_wp2_with fail
          refine (scanned_any _ er s' w ga gb _ E T0.out (by rw [hfs.out]; exact HSF.out) (by omega) (by omega)).mono ?_
          rintro e w5 ⟨rfl, s2, hs2, hT⟩
          have T1 := Lib.hid hT
          have HF2 : Hid (s2.fs = fs) := by unfold Hid; rw [hs2, hfs.out]
          clear hT hs2 hc T0 hfs
          go_wp2_with fail
          refine (left_any s2 ga _ T1.out.pa).mono ?_
          rintro e w6 ⟨rfl, hd⟩
          have T2 := Lib.hid (T1.out.then_ hd.below)
          clear hd T1
          go_wp2_with fail
          refine (rleft_any s2 gb _ T2.out.qb).mono ?_
          rintro e w7 ⟨rfl, hd⟩
          have T3 := Lib.hid (T2.out.then_ hd.below)
          clear hd T2
          go_wp2_with fail
          refine (endS_any s2 ga _ T3.out.pa).mono ?_
          rintro e w8 ⟨rfl, hb⟩
          have T4 := Lib.hid (T3.out.then_ hb)
          clear hb T3
          obtain ⟨el, hel⟩ : ∃ x, s2.endL = x := ⟨_, rfl⟩
          obtain ⟨ec, hec⟩ : ∃ x, s2.endC = x := ⟨_, rfl⟩
          obtain ⟨ee, hee⟩ : ∃ x, s2.endE = x := ⟨_, rfl⟩
          obtain ⟨eb, heb⟩ : ∃ x, s2.endB = x := ⟨_, rfl⟩
          rw [hel, hec, hee, heb]
          have D4 : Hid (DgB (w8.alloc (.cells #[.int .i64 el, .int .i64 ec, .int .i64 ee] 74)) w8.heap.size el ec ee) := dgB_new _ _ _ _
          have T5 := Lib.hid (T4.out.alloc (.cells #[.int .i64 el, .int .i64 ec, .int .i64 ee] 74))
          have HEL := Lib.hid hel
          have HEC := Lib.hid hec
          have HEE := Lib.hid hee
          have HEB := Lib.hid heb
          clear T4 hel hec hee heb
          go_wp2_with fail
          refine (rendS_any s2 gb _ T5.out.qb).mono ?_
          rintro e w9 ⟨rfl, hb⟩
          rw [HEL.out, HEC.out, HEE.out, HEB.out]
          have D5 := Lib.hid (D4.out.below hb)
          have T6 := Lib.hid (T5.out.then_ hb)
          clear hb T5 D4
          obtain ⟨d0, d1, d2, d3⟩ := D5.out.cells
          have q1 : (eb != eb) = false := by simp
          have T7 := Lib.hid (T6.out.alloc (.cells #[.int .i64 el, .int .i64 ec, .int .i64 ee] 74))
          go_wp2
          go_roundw
          case rel => exact ⟨k + 1, s2, by go_num, hlt, by omega, HF2, T7⟩
          case measure => simp [intOf]; omega
        · have hki : (k : Int) < (m : Int) := by omega
          have hki2 : (12 : Int) ≤ (k : Int) := by omega
          go_wp2
          go_ret
          exact ⟨rfl, T0.out.b0⟩
      · have hki : (m : Int) ≤ (k : Int) := by omega
        go_wp2
        go_ret
        exact ⟨rfl, T0.out.b0⟩
  · have e1 : (se != 0) = true := bne_iff_ne.2 h0
    clear h0
    go_wp2
    go_ret
    exact ⟨rfl, HB3.out⟩
end Go.Proofs.YtlgajjlnbcbijaaGreatDoor
