/-
  Several texts as one.
  Plain words: the airway of records; records in memory.
  Contract: the point of a record, by the program.
  Contract: the airway of records, by the program.
  Contract: the airway of records, by the reference.
-/
import Derived.Test.YtinkdlmikhcpjaaGreatDoorMAw
import Derived.Test.YtinkdlmikhcpjaaGreatDoorMScanX
import Derived.Test.YtinkdlmikhcpjaaGreatDoorMScan
import Derived.IntWalk
import Derived.Deep.DeepAppendWide
namespace Go.Proofs.YtinkdlmikhcpjaaGreatDoor
open Go.RowKit
set_option linter.unusedVariables false
set_option linter.unusedSimpArgs false

/-- a record: its number, its fields -/
abbrev Ln := Int × List FldI
def airW : List (List UInt8) := [[65, 73, 82, 87, 65, 89]]
def viaW : List (List UInt8) := [[86, 73, 65]]
def dirW : List (List UInt8) := [[66, 79, 84, 72], [70, 79, 82, 87, 65, 82, 68], [66, 65, 67, 75, 87, 65, 82, 68]]
/-- the name of an airway's first record -/
def hd1 (x : Ln) : Sc := (scan0 x.1 x.2).tk (wordE airW)
def hd2 (x : Ln) : Sc := (hd1 x).tk (nameSE 8)
def hdNm (x : Ln) : List UInt8 := (hd1 x).tv [] (nameSV 8)
/-- the point of another record -/
def via1 (x : Ln) : Sc := (scan0 x.1 x.2).tk (wordE viaW)
def via2 (x : Ln) : Sc := (via1 x).take
def via3 (x : Ln) : Sc := if refErr (via1 x).text = 0 then via2 x else (via2 x).note (via2 x).la 5
def via4 (x : Ln) : Sc := (via3 x).tk winSEr
def via5 (x : Ln) : Sc := (via4 x).tk (wordE dirW)
def viaS (x : Ln) (last : Bool) : Sc := if last then via3 x else via5 x
def viaDir (x : Ln) : Int := (via4 x).tv (-1) (fun t => wordAt dirW t 0)
def viaP (x : Ln) (last : Bool) : Pt := if last then ⟨(via1 x).text, -200000, 6000000, 0⟩ else ⟨(via1 x).text, (via3 x).tv 0 winSLo, (via3 x).tv 0 winSHi, (viaDir x % 256).toNat⟩
/-- what Take answers: the name, the points, the diagnostic, whether there is one -/
structure TkO where
  nm : List UInt8
  pts : List Pt
  dl : Int
  dc : Int
  de : Int
  bad : Bool
def tkBad (s : Sc) : TkO := ⟨[], [], s.endL, s.endC, s.endE, true⟩
/-- the points of the records from place k on; done: those ahead -/
def ptsGo (nm : List UInt8) (l0 c0 : Int) (done : List Pt) : List Ln → TkO
  | [] => if chkA nm done = 0 then ⟨nm, done, 0, 0, 0, false⟩ else ⟨[], [], l0, c0, chkA nm done, true⟩
  | x :: r => if (viaS x r.isEmpty).endB then tkBad (viaS x r.isEmpty) else ptsGo nm l0 c0 (done ++ [viaP x r.isEmpty]) r
def takeO : List Ln → TkO
  | [] => ⟨[], [], 1, 1, 4, true⟩
  | x :: r => if (hd2 x).endB then tkBad (hd2 x) else ptsGo (hdNm x) x.1 (fld x.2 0).2 [] r
theorem ptsGo_chk (nm : List UInt8) (l0 c0 : Int) : ∀ (r : List Ln) (done : List Pt), (ptsGo nm l0 c0 done r).bad = false → chkA (ptsGo nm l0 c0 done r).nm (ptsGo nm l0 c0 done r).pts = 0
  | [], done, h => by
    unfold ptsGo at h ⊢
    split
    · assumption
    · next h2 => rw [if_neg h2] at h; cases h
  | x :: r, done, h => by
    unfold ptsGo at h ⊢
    split
    · next h2 => rw [if_pos h2] at h; cases h
    · next h2 => rw [if_neg h2] at h; exact ptsGo_chk nm l0 c0 r _ h
theorem takeO_chk (L : List Ln) (h : (takeO L).bad = false) : chkA (takeO L).nm (takeO L).pts = 0 := by
  match L with
  | [] => cases h
  | x :: r =>
    have e : takeO (x :: r) = if (hd2 x).endB then tkBad (hd2 x) else ptsGo (hdNm x) x.1 (fld x.2 0).2 [] r := rfl
    rw [e] at h ⊢
    split
    · next h2 => rw [if_pos h2] at h; cases h
    · next h2 => rw [if_neg h2] at h; exact ptsGo_chk _ _ _ _ _ h
theorem ptsGo_step (nm : List UInt8) (l0 c0 : Int) (done : List Pt) {L : List Ln} {k : Nat} (h : k < L.length) :
    ptsGo nm l0 c0 done (L.drop k) = if (viaS L[k] (decide (L.length ≤ k + 1))).endB then tkBad (viaS L[k] (decide (L.length ≤ k + 1))) else ptsGo nm l0 c0 (done ++ [viaP L[k] (decide (L.length ≤ k + 1))]) (L.drop (k + 1)) := by
  rw [List.drop_eq_getElem_cons h]
  have e : (L.drop (k + 1)).isEmpty = decide (L.length ≤ k + 1) := by
    rw [Bool.eq_iff_iff, List.isEmpty_iff, List.drop_eq_nil_iff, decide_eq_true_iff]
  rw [← e]; rfl
theorem ptsGo_end (nm : List UInt8) (l0 c0 : Int) (done : List Pt) {L : List Ln} {k : Nat} (h : L.length ≤ k) :
    ptsGo nm l0 c0 done (L.drop k) = if chkA nm done = 0 then ⟨nm, done, 0, 0, 0, false⟩ else ⟨[], [], l0, c0, chkA nm done, true⟩ := by
  rw [List.drop_eq_nil_of_le h]; rfl
/-- records whose parts fit -/
def LnOk (x : Ln) : Prop := x.2.length ≤ 5864062014634 ∧ ∀ f ∈ x.2, f.1.length ≤ 140737488351232
/-- records in memory -/
def LnsR (w : World) (v : Value) (L : List Ln) : Prop :=
  ∃ A c, v = .slice A L.length c ∧ L.length ≤ c ∧ c ≤ maxLen ∧ (∀ x ∈ L, LnOk x) ∧ (0 < L.length → ∃ g o, A = some ⟨g, o, none⟩ ∧ g < w.heap.size ∧
    ∀ k (h : k < L.length), ∃ fv, w.cell? ⟨g, o + k * 2, none⟩ = some (.int .i64 L[k].1) ∧ w.cell? ⟨g, o + k * 2 + 1, none⟩ = some fv ∧ FsR w w.heap.size fv L[k].2)
theorem FsR.grow' {w w' : World} {v : Value} {fs : List FldI} (h : FsR w w.heap.size v fs) (hb : Below w.heap.size w w') : FsR w' w'.heap.size v fs :=
  (h.keep fun k hk => hb.block k hk).mono hb.size
theorem LnsR.below {w w' : World} {v : Value} {L : List Ln} (h : LnsR w v L) (hb : Below w.heap.size w w') : LnsR w' v L := by
  obtain ⟨A, c, hv, hc, hm, hk, hr⟩ := h
  refine ⟨A, c, hv, hc, hm, hk, fun h0 => ?_⟩
  obtain ⟨g, o, hA, hg, hx⟩ := hr h0
  refine ⟨g, o, hA, Nat.lt_of_lt_of_le hg hb.size, fun k hk => ?_⟩
  obtain ⟨fv, h1, h2, h3⟩ := hx k hk
  exact ⟨fv, (hb.cell (p := ⟨g, o + k * 2, none⟩) hg).trans h1, (hb.cell (p := ⟨g, o + k * 2 + 1, none⟩) hg).trans h2, h3.grow' hb⟩
theorem LnsR.form {w : World} {v : Value} {L : List Ln} (h : LnsR w v L) : ∃ A c, v = .slice A L.length c ∧ L.length ≤ c ∧ c ≤ maxLen := by
  obtain ⟨A, c, hv, hc, hm, _⟩ := h; exact ⟨A, c, hv, hc, hm⟩
theorem LnsR.at_ {w : World} {v : Value} {L : List Ln} (h : LnsR w v L) {k : Nat} (hk : k < L.length) :
    ∃ g o c fv, v = .slice (some ⟨g, o, none⟩) L.length c ∧ g < w.heap.size ∧ w.cell? ⟨g, o + k * 2, none⟩ = some (.int .i64 L[k].1) ∧ w.cell? ⟨g, o + k * 2 + 1, none⟩ = some fv ∧ FsR w w.heap.size fv L[k].2 ∧ LnOk L[k] := by
  obtain ⟨A, c, hv, hc, hm, hok, hr⟩ := h
  obtain ⟨g, o, rfl, hg, hx⟩ := hr (by omega)
  obtain ⟨fv, h1, h2, h3⟩ := hx k hk
  exact ⟨g, o, c, fv, hv, hg, h1, h2, h3, hok _ (List.getElem_mem hk)⟩
theorem LnOk.text {s : Sc} (h : ∀ f ∈ s.fs, f.1.length ≤ 140737488351232) : s.text.length ≤ 140737488351232 := by
  unfold Sc.text
  split
  · unfold fld
    rcases Nat.lt_or_ge s.nx s.fs.length with h1 | h1
    · rw [List.getD_eq_getElem?_getD, List.getElem?_eq_getElem h1]
      simp only [Option.getD_some]; exact h _ (List.getElem_mem h1)
    · rw [List.getD_eq_getElem?_getD, List.getElem?_eq_none h1]; simp
  · simp
theorem tk_fsT (s : Sc) (er : List UInt8 → Int) : (s.tk er).fs = s.fs := by
  unfold Sc.tk; split
  · rw [Sc.note_fs, Sc.take_fs]
  · rw [Sc.take_fs]
theorem via1_fs (x : Ln) : (via1 x).fs = x.2 := by unfold via1; rw [tk_fsT]; rfl
theorem via2_fs (x : Ln) : (via2 x).fs = x.2 := by unfold via2; rw [Sc.take_fs, via1_fs]
theorem via3_fs (x : Ln) : (via3 x).fs = x.2 := by unfold via3; split
                                                   · exact via2_fs x
                                                   · rw [Sc.note_fs, via2_fs]
theorem via4_fs (x : Ln) : (via4 x).fs = x.2 := by unfold via4; rw [tk_fsT, via3_fs]
theorem hd1_fs (x : Ln) : (hd1 x).fs = x.2 := by unfold hd1; rw [tk_fsT]; rfl
end Go.Proofs.YtinkdlmikhcpjaaGreatDoor
namespace Go.Proofs.YtinkdlmikhcpjaaGreatDoor
open Go.RowKit
set_option linter.unusedVariables false
set_option linter.unusedSimpArgs false

set_option maxHeartbeats 1000000 in
/-- the words of the directions: three texts in a new row -/
theorem words3_any (w : World) : Calls Tryz.prog 70 #[] w fun e w' => e = .returned (.slice (some ⟨w.heap.size, 0, none⟩) 3 3) ∧ w' = w.alloc (.cells #[.string ⟨#[66, 79, 84, 72]⟩, .string ⟨#[70, 79, 82, 87, 65, 82, 68]⟩, .string ⟨#[66, 65, 67, 75, 87, 65, 82, 68]⟩] 9) := by
  go_enter Tryz.func70, Tryz.ntmps70
  go_wp2
  go_ret
  exact ⟨rfl, rfl⟩
/-- a point in a box -/
def PtB (w : World) (b : Nat) (p : Pt) : Prop := w.heap[b]? = some (.cells #[.string (sb p.ref), .int .i64 p.lo, .int .i64 p.hi, .int .u8 (p.dir : Int)] 74 (0, 0))
def DgT (w : World) (b : Nat) (x y z : Int) : Prop := w.heap[b]? = some (.cells #[.int .i64 x, .int .i64 y, .int .i64 z] 39 (0, 0))
theorem heap_lt2 {w : World} {b : Nat} {o : Obj} (h : w.heap[b]? = some o) : b < w.heap.size := (Array.getElem?_eq_some_iff.1 h).1
theorem PtB.cells {w : World} {b : Nat} {p : Pt} (h : PtB w b p) : w.cell? ⟨b, 0, none⟩ = some (.string (sb p.ref)) ∧ w.cell? ⟨b, 1, none⟩ = some (.int .i64 p.lo) ∧ w.cell? ⟨b, 2, none⟩ = some (.int .i64 p.hi) ∧ w.cell? ⟨b, 3, none⟩ = some (.int .u8 (p.dir : Int)) ∧ b < w.heap.size :=
  ⟨blkCell h 0 rfl, blkCell h 1 rfl, blkCell h 2 rfl, blkCell h 3 rfl, heap_lt2 h⟩
theorem PtB.frees {w : World} {b : Nat} {p : Pt} (h : PtB w b p) : w.frozen? ⟨b, 0, none⟩ = false ∧ w.frozen? ⟨b, 1, none⟩ = false ∧ w.frozen? ⟨b, 2, none⟩ = false ∧ w.frozen? ⟨b, 3, none⟩ = false :=
  ⟨blkFree h 0, blkFree h 1, blkFree h 2, blkFree h 3⟩
theorem DgT.cells {w : World} {b : Nat} {x y z : Int} (h : DgT w b x y z) : w.cell? ⟨b, 0, none⟩ = some (.int .i64 x) ∧ w.cell? ⟨b, 1, none⟩ = some (.int .i64 y) ∧ w.cell? ⟨b, 2, none⟩ = some (.int .i64 z) ∧ b < w.heap.size :=
  ⟨blkCell h 0 rfl, blkCell h 1 rfl, blkCell h 2 rfl, heap_lt2 h⟩
theorem DgT.frees {w : World} {b : Nat} {x y z : Int} (h : DgT w b x y z) : w.frozen? ⟨b, 0, none⟩ = false ∧ w.frozen? ⟨b, 1, none⟩ = false ∧ w.frozen? ⟨b, 2, none⟩ = false :=
  ⟨blkFree h 0, blkFree h 1, blkFree h 2⟩
def pt0 : Pt := ⟨[], 0, 0, 0⟩
/-- a scanner and the point that it fills; the result's boxes -/
structure PkR (P : World → Nat → Sc → Prop) (w0 : World) (g bp : Nat) (s : Sc) (p : Pt) (w : World) : Prop where
  sc : P w g s
  bx : PtB w bp p
  r1 : PtB w (w0.heap.size + 1) pt0
  r2 : DgT w (w0.heap.size + 2) 0 0 0
  gb : g < bp
  lo : w0.heap.size + 3 ≤ g
  be : Below w0.heap.size w0 w
theorem PkR.call {P : World → Nat → Sc → Prop} {w0 w w' : World} {g bp : Nat} {s s' : Sc} {p : Pt} (h : PkR P w0 g bp s p w) (hs : P w' g s') (ho : Off g w w') : PkR P w0 g bp s' p w' := by
  have l1 := heap_lt2 h.bx
  have l2 := heap_lt2 h.r1
  have l3 := heap_lt2 h.r2
  have gb := h.gb
  have lo := h.lo
  exact ⟨hs, (ho.block bp l1 (by intro e; injection e with e; omega)).trans h.bx, (ho.block _ l2 (by intro e; injection e with e; omega)).trans h.r1, (ho.block _ l3 (by intro e; injection e with e; omega)).trans h.r2, gb, lo, ho.below h.be (by omega) (by omega)⟩
theorem PkR.pthen {w0 w w' : World} {g bp : Nat} {s : Sc} {p : Pt} (h : PkR ScP w0 g bp s p w) (hb : Below w.heap.size w w') : PkR ScP w0 g bp s p w' := h.call (h.sc.below hb) (Off.of_below hb)
theorem PkR.palloc {w0 w : World} {g bp : Nat} {s : Sc} {p : Pt} (h : PkR ScP w0 g bp s p w) (o : Obj) : PkR ScP w0 g bp s p (w.alloc o) := h.pthen ((Below.refl _ _).alloc (Nat.le_refl _) o)
theorem PkR.pset {w0 w : World} {g bp : Nat} {s : Sc} {p p' : Pt} (h : PkR ScP w0 g bp s p w) {j : Nat} {u : Value}
    (hx : (#[.string (sb p.ref), .int .i64 p.lo, .int .i64 p.hi, .int .u8 (p.dir : Int)] : Array Value).setIfInBounds j u = #[.string (sb p'.ref), .int .i64 p'.lo, .int .i64 p'.hi, .int .u8 (p'.dir : Int)]) : PkR ScP w0 g bp s p' (w.setCell ⟨bp, j, none⟩ u) := by
  have gb := h.gb
  have lo := h.lo
  have ho : ∀ k, k ≠ bp → (w.setCell ⟨bp, j, none⟩ u).heap[k]? = w.heap[k]? := fun k hk => heap_setCell_other w ⟨bp, j, none⟩ k u (fun e => hk (by simpa using e))
  refine ⟨h.sc.keep fun k hk => ho k (by omega), ?_, (ho _ (by omega)).trans h.r1, (ho _ (by omega)).trans h.r2, gb, lo, h.be.setCell (by simp; omega) _⟩
  unfold PtB
  rw [heap_setCell_same w bp j _ _ _ h.bx, hx]
theorem PkR.qthen {w0 w w' : World} {g bp : Nat} {s : Sc} {p : Pt} (h : PkR ScQ w0 g bp s p w) (hb : Below w.heap.size w w') : PkR ScQ w0 g bp s p w' := h.call (h.sc.below hb) (Off.of_below hb)
theorem PkR.qalloc {w0 w : World} {g bp : Nat} {s : Sc} {p : Pt} (h : PkR ScQ w0 g bp s p w) (o : Obj) : PkR ScQ w0 g bp s p (w.alloc o) := h.qthen ((Below.refl _ _).alloc (Nat.le_refl _) o)
theorem PkR.qset {w0 w : World} {g bp : Nat} {s : Sc} {p p' : Pt} (h : PkR ScQ w0 g bp s p w) {j : Nat} {u : Value}
    (hx : (#[.string (sb p.ref), .int .i64 p.lo, .int .i64 p.hi, .int .u8 (p.dir : Int)] : Array Value).setIfInBounds j u = #[.string (sb p'.ref), .int .i64 p'.lo, .int .i64 p'.hi, .int .u8 (p'.dir : Int)]) : PkR ScQ w0 g bp s p' (w.setCell ⟨bp, j, none⟩ u) := by
  have gb := h.gb
  have lo := h.lo
  have ho : ∀ k, k ≠ bp → (w.setCell ⟨bp, j, none⟩ u).heap[k]? = w.heap[k]? := fun k hk => heap_setCell_other w ⟨bp, j, none⟩ k u (fun e => hk (by simpa using e))
  refine ⟨h.sc.keep fun k hk => ho k (by omega), ?_, (ho _ (by omega)).trans h.r1, (ho _ (by omega)).trans h.r2, gb, lo, h.be.setCell (by simp; omega) _⟩
  unfold PtB
  rw [heap_setCell_same w bp j _ _ _ h.bx, hx]
theorem alloc3a (w : World) (o1 o2 o3 : Obj) : (((w.alloc o1).alloc o2).alloc o3).heap[w.heap.size + 1]? = some o2 ∧ (((w.alloc o1).alloc o2).alloc o3).heap[w.heap.size + 2]? = some o3 := by
  have h2 := heap_alloc_new (w.alloc o1) o2
  have h3 := heap_alloc_new ((w.alloc o1).alloc o2) o3
  simp only [World.size_alloc] at h2 h3
  exact ⟨(((Below.refl _ _).alloc (Nat.le_refl _) o3).block (w.heap.size + 1) (by simp)).trans h2, h3⟩
theorem wdr1 (w : World) (g : Nat) (t : ByteArray) (hg : g < w.heap.size) : WdR (w.alloc (.cells #[.string t] 9)) g (.slice (some ⟨w.heap.size, 0, none⟩) 1 1) [bl t] := by
  refine ⟨_, _, rfl, Nat.le_refl _, by unfold maxLen; decide, fun _ => ⟨w.heap.size, 0, rfl, by simp, by omega, fun k hk => ?_⟩⟩
  match k, hk with
  | 0, _ => simp [go_sem, sb_bl]
theorem wdr3 (w : World) (g : Nat) (hg : g < w.heap.size) : WdR (w.alloc (.cells #[.string ⟨#[66, 79, 84, 72]⟩, .string ⟨#[70, 79, 82, 87, 65, 82, 68]⟩, .string ⟨#[66, 65, 67, 75, 87, 65, 82, 68]⟩] 9)) g (.slice (some ⟨w.heap.size, 0, none⟩) 3 3) dirW := by
  refine ⟨_, _, rfl, Nat.le_refl _, by unfold maxLen; decide, fun _ => ⟨w.heap.size, 0, rfl, by simp, by omega, fun k hk => ?_⟩⟩
  match k, hk with
  | 0, _ => simp [go_sem]; rfl
  | 1, _ => simp [go_sem]; rfl
  | 2, _ => simp [go_sem]; rfl
theorem dirAt_ways (t : List UInt8) : wordAt dirW t 0 = -1 ∨ wordAt dirW t 0 = 0 ∨ wordAt dirW t 0 = 1 ∨ wordAt dirW t 0 = 2 := by
  have e : wordAt dirW t 0 = if [66, 79, 84, 72] = t then 0 else if [70, 79, 82, 87, 65, 82, 68] = t then 1 else if [66, 65, 67, 75, 87, 65, 82, 68] = t then 2 else -1 := rfl
  rw [e]
  by_cases h1 : [66, 79, 84, 72] = t
  · rw [if_pos h1]; exact .inr (.inl rfl)
  · rw [if_neg h1]
    by_cases h2 : [70, 79, 82, 87, 65, 82, 68] = t
    · rw [if_pos h2]; exact .inr (.inr (.inl rfl))
    · rw [if_neg h2]
      by_cases h3 : [66, 65, 67, 75, 87, 65, 82, 68] = t
      · rw [if_pos h3]; exact .inr (.inr (.inr rfl))
      · rw [if_neg h3]; exact .inl rfl
theorem dir_ways (x : Ln) : viaDir x = -1 ∨ viaDir x = 0 ∨ viaDir x = 1 ∨ viaDir x = 2 := by
  unfold viaDir Sc.tv
  split
  · exact dirAt_ways _
  · exact .inl rfl
theorem dir_nat (x : Ln) : (((viaDir x % 256).toNat : Nat) : Int) = viaDir x % 256 ∧ 0 ≤ viaDir x % 256 ∧ viaDir x % 256 < 256 ∧ -1 ≤ viaDir x ∧ viaDir x ≤ 2 := by
  rcases dir_ways x with h | h | h | h <;> rw [h] <;> decide
def PtPost (x : Ln) (last : Bool) (w : World) (e : Ending) (w' : World) : Prop :=
  e = .returned (.tuple #[.agg #[.string (sb (viaP x last).ref), .int .i64 (viaP x last).lo, .int .i64 (viaP x last).hi, .int .u8 ((viaP x last).dir : Int)], .agg #[.int .i64 (viaS x last).endL, .int .i64 (viaS x last).endC, .int .i64 (viaS x last).endE], .bool (viaS x last).endB]) ∧ Below w.heap.size w w'
theorem ptPost_mk {x : Ln} {last : Bool} {w w' : World} {r : List UInt8} {lo hi : Int} {d : Int} {a b c : Int} {f : Bool} (h1 : (viaP x last).ref = r) (h2 : (viaP x last).lo = lo) (h3 : (viaP x last).hi = hi) (h4 : ((viaP x last).dir : Int) = d)
    (h5 : (viaS x last).endL = a) (h6 : (viaS x last).endC = b) (h7 : (viaS x last).endE = c) (h8 : (viaS x last).endB = f) (h : Below w.heap.size w w') :
    PtPost x last w (.returned (.tuple #[.agg #[.string (sb r), .int .i64 lo, .int .i64 hi, .int .u8 d], .agg #[.int .i64 a, .int .i64 b, .int .i64 c], .bool f])) w' := by
  subst h1 h2 h3 h4 h5 h6 h7 h8; exact ⟨rfl, h⟩
set_option maxRecDepth 100000 in
set_option maxHeartbeats 4000000 in
theorem takePoint_any (x : Ln) (last : Bool) (v : Value) (w : World) (E : Env w) (h : FsR w w.heap.size v x.2) (hok : LnOk x) :
    Calls Tryz.prog 43 #[.agg #[.int .i64 x.1, v], .bool last] w (PtPost x last w) := by
  have H0 := Lib.hid (fun o1 o2 o3 => h.grow' ((((Below.refl w.heap.size w).alloc (Nat.le_refl _) o1).alloc (by simp) o2).alloc (by simp; omega) o3))
  obtain ⟨A, c, rfl, hc, hm⟩ := fld_le h
  obtain ⟨n, hnn⟩ : ∃ n, x.2.length = n := ⟨_, rfl⟩
  rw [hnn] at hc H0 ⊢
  have HOK := Lib.hid hok
  clear h hnn hok
  obtain ⟨num, hnum⟩ : ∃ a, x.1 = a := ⟨_, rfl⟩
  have HNUM := Lib.hid hnum
  rw [hnum]
  clear hnum
  go_enter Tryz.func43, Tryz.ntmps43
  go_wp2_with fail
  refine (scan_any num _ x.2 _ (H0.out _ _ _) HOK.out.1).mono ?_
  rintro e w1 ⟨g, rfl, hg, hsc, hb1⟩
  simp only [World.size_alloc] at hg
  have HB1 : Hid (Below w.heap.size w w1) := ((((Below.refl w.heap.size w).alloc (Nat.le_refl _) _).alloc (by simp) _).alloc (by simp; omega) _).trans (hb1.mono (by simp; omega))
  have R1 : Hid (PtB w1 (w.heap.size + 1) pt0) := (hb1.block _ (by simp)).trans (alloc3a w _ _ _).1
  have R2 : Hid (DgT w1 (w.heap.size + 2) 0 0 0) := (hb1.block _ (by simp)).trans (alloc3a w _ _ _).2
  have hgl := hsc.lt
  have HSC : Hid (ScP w1 g (scan0 x.1 x.2)) := by unfold Hid; rw [HNUM.out]; exact hsc
  clear hb1 hsc
  go_wp2_with fail
  refine (free_any _).mono ?_
  rintro e w2 ⟨rfl, rfl⟩
  have KF : Hid (Below w1.heap.size w1 (w1.alloc (.cells #[.int .i64 (-200000), .int .i64 6000000] 72))) := (Below.refl _ _).alloc (Nat.le_refl _) _
  have HSC := Lib.hid (HSC.out.below KF.out)
  have R1 : Hid (PtB (w1.alloc (.cells #[.int .i64 (-200000), .int .i64 6000000] 72)) (w.heap.size + 1) pt0) := (KF.out.block _ (heap_lt2 R1.out)).trans R1.out
  have R2 : Hid (DgT (w1.alloc (.cells #[.int .i64 (-200000), .int .i64 6000000] 72)) (w.heap.size + 2) 0 0 0) := (KF.out.block _ (heap_lt2 R2.out)).trans R2.out
  have HB1 := Lib.hid (Below.then_ HB1.out KF.out)
  clear KF hgl
  obtain ⟨wf, hwf⟩ : ∃ wf, w1.alloc (.cells #[.int .i64 (-200000), .int .i64 6000000] 72) = wf := ⟨_, rfl⟩
  rw [hwf] at HSC R1 R2 HB1 ⊢
  clear hwf
  have hgl := HSC.out.lt
  obtain ⟨bp, hbp⟩ : ∃ b, wf.heap.size = b := ⟨_, rfl⟩
  have T0 : Hid (PkR ScP w g bp (scan0 x.1 x.2) ⟨[], -200000, 6000000, 0⟩ (wf.alloc (.cells #[.string (sb []), .int .i64 (-200000), .int .i64 6000000, .int .u8 0] 74))) := by
    have hb : Below wf.heap.size wf (wf.alloc (.cells #[.string (sb []), .int .i64 (-200000), .int .i64 6000000, .int .u8 0] 74)) := (Below.refl _ _).alloc (Nat.le_refl _) _
    exact ⟨HSC.out.below hb, by rw [← hbp]; exact heap_alloc_new wf _, (hb.block _ (heap_lt2 R1.out)).trans R1.out, (hb.block _ (heap_lt2 R2.out)).trans R2.out, by omega, by omega, Below.then_ HB1.out hb⟩
  have T0w := Lib.hid (T0.out.palloc (.cells #[.string ⟨#[86, 73, 65]⟩] 9))
  have HWD := Lib.hid (wdr1 (wf.alloc (.cells #[.string (sb []), .int .i64 (-200000), .int .i64 6000000, .int .u8 0] 74)) g ⟨#[86, 73, 65]⟩ T0.out.sc.lt)
  have HBP : Hid (wf.heap.size = bp) := hbp
  have hs1 : (wf.alloc (.cells #[.string (sb []), .int .i64 (-200000), .int .i64 6000000, .int .u8 0] 74)).heap.size = bp + 1 := by rw [World.size_alloc, hbp]
  rw [hs1] at HWD
  clear hbp hs1 T0
  go_wp2_with fail
  rw [HBP.out]
  refine (word_any (scan0 x.1 x.2) g _ viaW _ T0w.out.sc HWD.out).mono ?_
  rintro e w3 ⟨rfl, hp⟩
  have T1 : Hid (PkR ScP w g bp (via1 x) ⟨[], -200000, 6000000, 0⟩ w3) := T0w.out.call hp.1 hp.2
  clear hp T0w HWD
  go_wp2_with fail
  refine (field_any (via1 x) g _ T1.out.sc).mono ?_
  rintro e w4 ⟨rfl, hp⟩
  have T2 : Hid (PkR ScP w g bp (via2 x) ⟨[], -200000, 6000000, 0⟩ w4) := T1.out.call hp.1 hp.2
  have LT : Hid ((via1 x).text.length ≤ 140737488351232) := LnOk.text (by rw [via1_fs]; exact HOK.out.2)
  obtain ⟨tx, htx⟩ : ∃ t, (via1 x).text = t := ⟨_, rfl⟩
  rw [htx] at LT ⊢
  have HTX := Lib.hid htx
  have T3 : Hid (PkR ScP w g bp (via2 x) ⟨tx, -200000, 6000000, 0⟩ (w4.setCell ⟨bp, 0, none⟩ (.string (sb tx)))) := T2.out.pset rfl
  obtain ⟨c0, c1, c2, c3, c4⟩ := T2.out.bx.cells
  obtain ⟨f0, f1, f2, f3⟩ := T2.out.bx.frees
  clear hp htx T1 T2
  go_wp2_with fail
  refine (splitRef_any (sb tx) _ (by have := LT.out; unfold maxLen; show tx.length ≤ _; omega)).mono ?_
  rintro e w5 ⟨a, b, rfl, _, _, _, _, hd⟩
  rw [bl_sb]
  have T4 := Lib.hid (T3.out.pthen hd.below)
  clear hd T3 c0 c1 c2 c3 c4 f0 f1 f2 f3
  obtain ⟨er, her⟩ : ∃ x, refErr tx = x := ⟨_, rfl⟩
  rw [her]
  have HER := Lib.hid her
  clear her
  have E5 := E.below T4.out.be
  go_upto_if 32 with (fail)
  go_cut [34] (fun _ wx => Hid (PkR ScP w g bp (via3 x) ⟨tx, -200000, 6000000, 0⟩ wx))
  case first =>
    by_cases h0 : er = 0
    · have e1 : (er != 0) = false := bne_eq_false_iff_eq.2 h0
      have HS : Hid (via3 x = via2 x) := by unfold Hid via3; rw [HTX.out, HER.out, if_pos h0]
      clear h0
      go_wp2
      go_meet
      unfold Hid; rw [HS.out]; exact T4.out
    · have e1 : (er != 0) = true := bne_iff_ne.2 h0
      have HS : Hid (via3 x = (via2 x).note (via2 x).la 5) := by unfold Hid via3; rw [HTX.out, HER.out, if_neg h0]
      clear h0
      go_wp2_with fail
      refine (failS_any (via2 x) 5 g _ T4.out.sc).mono ?_
      rintro e w6 ⟨rfl, hp⟩
      have T5 := Lib.hid (T4.out.call hp.1 hp.2)
      clear hp
      go_wp2
      go_meet
      unfold Hid; rw [HS.out]; exact T5.out
  case rest =>
    have T6 := hcut
    have E6 := E.below T6.out.be
    have hgn : 8 ≤ g := by have := E.size; have := T6.out.lo; omega
    have LT3 : Hid ((via3 x).text.length ≤ 140737488351232) := LnOk.text (by rw [via3_fs]; exact HOK.out.2)
    go_upto_if 36 with (fail)
    go_cut [44] (fun _ wx => Hid (PkR ScP w g bp (viaS x last) (viaP x last) wx))
    case first =>
      cases last
      · go_wp2_with fail
        refine (winS_any (via3 x) g _ E6 hgn LT3.out T6.out.sc).mono ?_
        rintro e w7 ⟨rfl, hp⟩
        have T7 : Hid (PkR ScP w g bp (via4 x) ⟨tx, -200000, 6000000, 0⟩ w7) := T6.out.call hp.1 hp.2
        obtain ⟨lo, hlo⟩ : ∃ y, (via3 x).tv 0 winSLo = y := ⟨_, rfl⟩
        obtain ⟨hi, hhi⟩ : ∃ y, (via3 x).tv 0 winSHi = y := ⟨_, rfl⟩
        rw [hlo, hhi]
        have T8 : Hid (PkR ScP w g bp (via4 x) ⟨tx, lo, hi, 0⟩ ((w7.setCell ⟨bp, 1, none⟩ (.int .i64 lo)).setCell ⟨bp, 2, none⟩ (.int .i64 hi))) :=
          (T7.out.pset (p' := ⟨tx, lo, 6000000, 0⟩) rfl).pset rfl
        have HLO := Lib.hid hlo
        have HHI := Lib.hid hhi
        obtain ⟨c0, c1, c2, c3, c4⟩ := T7.out.bx.cells
        obtain ⟨f0, f1, f2, f3⟩ := T7.out.bx.frees
        clear hp hlo hhi T7
        go_wp2_with fail
        refine (words3_any _).mono ?_
        rintro e w8 ⟨rfl, rfl⟩
        have HWD := Lib.hid (wdr3 _ g T8.out.sc.lt)
        have T9 := Lib.hid (T8.out.palloc (.cells #[.string ⟨#[66, 79, 84, 72]⟩, .string ⟨#[70, 79, 82, 87, 65, 82, 68]⟩, .string ⟨#[66, 65, 67, 75, 87, 65, 82, 68]⟩] 9))
        have hsz : ((w7.setCell ⟨bp, 1, none⟩ (.int .i64 lo)).setCell ⟨bp, 2, none⟩ (.int .i64 hi)).heap.size = w7.heap.size := by simp
        rw [hsz] at HWD
        clear T8 c0 c1 c2 c3 c4 f0 f1 f2 f3 hsz
        go_wp2_with fail
        refine (word_any (via4 x) g _ dirW _ T9.out.sc HWD.out).mono ?_
        rintro e w8 ⟨rfl, hp⟩
        have T10 : Hid (PkR ScP w g bp (via5 x) ⟨tx, lo, hi, 0⟩ w8) := T9.out.call hp.1 hp.2
        obtain ⟨hd1, hd2, hd3, hd4, hd5⟩ := dir_nat x
        have HVD : Hid ((via4 x).tv (-1) (fun t => wordAt dirW t 0) = viaDir x) := rfl
        rw [HVD.out]
        obtain ⟨d, hd⟩ : ∃ d, viaDir x = d := ⟨_, rfl⟩
        rw [hd] at hd1 hd2 hd3 hd4 hd5 ⊢
        have HD1 := Lib.hid hd1
        have HD := Lib.hid hd
        have T11 : Hid (PkR ScP w g bp (via5 x) ⟨tx, lo, hi, (d % 256).toNat⟩ (w8.setCell ⟨bp, 3, none⟩ (.int .u8 (d % 256)))) := T10.out.pset (by rw [HD1.out]; rfl)
        have HPT : Hid (viaP x false = ⟨tx, lo, hi, (d % 256).toNat⟩) := by unfold Hid viaP; rw [if_neg (by decide), HTX.out, HLO.out, HHI.out, HD.out]
        obtain ⟨c0, c1, c2, c3, c4⟩ := T10.out.bx.cells
        obtain ⟨f0, f1, f2, f3⟩ := T10.out.bx.frees
        have hwr : IntKind.u8.wrap d = d % 256 := by simp [IntKind.wrap, IntKind.bits, IntKind.signed]
        clear hp T9 HWD T10 hd hd1
        go_wp2
        go_meet
        unfold Hid; rw [HPT.out]; exact T11.out
      · have HPT : Hid (viaP x true = ⟨tx, -200000, 6000000, 0⟩) := by unfold Hid viaP; rw [if_pos rfl, HTX.out]
        go_wp2
        go_meet
        unfold Hid; rw [HPT.out]; exact T6.out
    case rest =>
      have T7 := hcut
      obtain ⟨S, hS⟩ : ∃ S, viaS x last = S := ⟨_, rfl⟩
      obtain ⟨P, hP⟩ : ∃ P, viaP x last = P := ⟨_, rfl⟩
      rw [hS, hP] at T7
      have HS := Lib.hid hS
      have HP := Lib.hid hP
      clear hS hP
      go_wp2_with fail
      refine (endS_any S g _ T7.out.sc).mono ?_
      rintro e w8 ⟨rfl, hb⟩
      have T8 := Lib.hid (T7.out.pthen hb)
      clear hb
      obtain ⟨el, hel⟩ : ∃ x, S.endL = x := ⟨_, rfl⟩
      obtain ⟨ec, hec⟩ : ∃ x, S.endC = x := ⟨_, rfl⟩
      obtain ⟨ee, hee⟩ : ∃ x, S.endE = x := ⟨_, rfl⟩
      obtain ⟨eb, heb⟩ : ∃ x, S.endB = x := ⟨_, rfl⟩
      rw [hel, hec, hee, heb]
      have HEL := Lib.hid hel
      have HEC := Lib.hid hec
      have HEE := Lib.hid hee
      have HEB := Lib.hid heb
      clear hel hec hee heb
      obtain ⟨c0, c1, c2, c3, c4⟩ := T8.out.bx.cells
      obtain ⟨r0, r1, r2, r3, r4⟩ := T8.out.r1.cells
      obtain ⟨q0, q1, q2, q3⟩ := T8.out.r1.frees
      obtain ⟨d0, d1, d2, d3⟩ := T8.out.r2.cells
      obtain ⟨e0, e1, e2⟩ := T8.out.r2.frees
      have hlo := T8.out.lo
      have hgb := T8.out.gb
      have hb1 : w.heap.size + 1 < bp := by omega
      have hb2 : w.heap.size + 2 < bp := by omega
      have HBE := Lib.hid T8.out.be
      clear hlo hgb
      go_wp2
      go_region
      go_wp2
      exact bodyPost_ret (v := .tuple #[.agg #[.string (sb P.ref), .int .i64 P.lo, .int .i64 P.hi, .int .u8 (P.dir : Int)], .agg #[.int .i64 el, .int .i64 ec, .int .i64 ee], .bool eb]) (by simp [results, Tryz.results43, go_sem, r0, r1, r2, r3, r4, d0, d1, d2, d3]) rfl (ptPost_mk (by rw [HP.out]) (by rw [HP.out]) (by rw [HP.out]) (by rw [HP.out]) (by rw [HS.out]; exact HEL.out) (by rw [HS.out]; exact HEC.out) (by rw [HS.out]; exact HEE.out) (by rw [HS.out]; exact HEB.out) (by repeat (with_reducible first | exact HBE.out | refine Below.setCell ?_ (by simp; try omega) _ | refine Below.drew ?_ | refine below_drewN' ?_ _ | refine Below.alloc ?_ (by have := HBE.out.size; simp; try omega) _)))
end Go.Proofs.YtinkdlmikhcpjaaGreatDoor
namespace Go.Proofs.YtinkdlmikhcpjaaGreatDoor
open Go.RowKit
set_option linter.unusedVariables false
set_option linter.unusedSimpArgs false

/-- an airway in a box -/
def AwB (w : World) (b : Nat) (nm : List UInt8) (pv : Value) : Prop := w.heap[b]? = some (.cells #[.string (sb nm), pv] 36 (0, 0))
theorem AwB.cells {w : World} {b : Nat} {nm : List UInt8} {pv : Value} (h : AwB w b nm pv) : w.cell? ⟨b, 0, none⟩ = some (.string (sb nm)) ∧ w.cell? ⟨b, 1, none⟩ = some pv ∧ b < w.heap.size :=
  ⟨blkCell h 0 rfl, blkCell h 1 rfl, heap_lt2 h⟩
theorem AwB.frees {w : World} {b : Nat} {nm : List UInt8} {pv : Value} (h : AwB w b nm pv) : w.frozen? ⟨b, 0, none⟩ = false ∧ w.frozen? ⟨b, 1, none⟩ = false := ⟨blkFree h 0, blkFree h 1⟩
/-- a scanner beside the result's boxes -/
structure HdR (P : World → Nat → Sc → Prop) (w0 : World) (g : Nat) (s : Sc) (w : World) : Prop where
  sc : P w g s
  r1 : AwB w w0.heap.size [] (.slice none 0 0)
  r2 : DgT w (w0.heap.size + 1) 0 0 0
  lo : w0.heap.size + 2 ≤ g
  be : Below w0.heap.size w0 w
theorem HdR.call {P : World → Nat → Sc → Prop} {w0 w w' : World} {g : Nat} {s s' : Sc} (h : HdR P w0 g s w) (hs : P w' g s') (ho : Off g w w') : HdR P w0 g s' w' := by
  have l2 := heap_lt2 h.r1
  have l3 := heap_lt2 h.r2
  have lo := h.lo
  exact ⟨hs, (ho.block _ l2 (by intro e; injection e with e; omega)).trans h.r1, (ho.block _ l3 (by intro e; injection e with e; omega)).trans h.r2, lo, ho.below h.be (by omega) (by omega)⟩
theorem HdR.pthen {w0 w w' : World} {g : Nat} {s : Sc} (h : HdR ScP w0 g s w) (hb : Below w.heap.size w w') : HdR ScP w0 g s w' := h.call (h.sc.below hb) (Off.of_below hb)
theorem HdR.palloc {w0 w : World} {g : Nat} {s : Sc} (h : HdR ScP w0 g s w) (o : Obj) : HdR ScP w0 g s (w.alloc o) := h.pthen ((Below.refl _ _).alloc (Nat.le_refl _) o)
theorem HdR.qthen {w0 w w' : World} {g : Nat} {s : Sc} (h : HdR ScQ w0 g s w) (hb : Below w.heap.size w w') : HdR ScQ w0 g s w' := h.call (h.sc.below hb) (Off.of_below hb)
theorem HdR.qalloc {w0 w : World} {g : Nat} {s : Sc} (h : HdR ScQ w0 g s w) (o : Obj) : HdR ScQ w0 g s (w.alloc o) := h.qthen ((Below.refl _ _).alloc (Nat.le_refl _) o)
/-- the airway that is filled, beside the result's boxes -/
structure TkW (w0 : World) (ba : Nat) (nm : List UInt8) (done : List Pt) (pv : Value) (w : World) : Prop where
  r1 : AwB w w0.heap.size [] (.slice none 0 0)
  r2 : DgT w (w0.heap.size + 1) 0 0 0
  bx : AwB w ba nm pv
  own : w.ownsRow (ba + 1) 74 4 pv done.length (ptcells done)
  ok : ∀ p ∈ done, p.ref.length ≤ maxLen ∧ p.dir < 256
  lo : w0.heap.size + 2 ≤ ba
  be : Below w0.heap.size w0 w
theorem TkW.then_ {w0 w w' : World} {ba : Nat} {nm : List UInt8} {done : List Pt} {pv : Value} (h : TkW w0 ba nm done pv w) (hb : Below w.heap.size w w') : TkW w0 ba nm done pv w' :=
  ⟨(hb.block _ (heap_lt2 h.r1)).trans h.r1, (hb.block _ (heap_lt2 h.r2)).trans h.r2, (hb.block _ (heap_lt2 h.bx)).trans h.bx, own_below h.own hb, h.ok, h.lo, Below.then_ h.be hb⟩
theorem TkW.alloc {w0 w : World} {ba : Nat} {nm : List UInt8} {done : List Pt} {pv : Value} (h : TkW w0 ba nm done pv w) (o : Obj) : TkW w0 ba nm done pv (w.alloc o) := h.then_ ((Below.refl _ _).alloc (Nat.le_refl _) o)
theorem TkW.pts {w0 w : World} {ba : Nat} {nm : List UInt8} {done : List Pt} {pv : Value} (h : TkW w0 ba nm done pv w) : PtsR w pv done := ⟨Rd.of_own h.own, h.ok⟩
/-- a point more -/
theorem TkW.snoc {w0 w w' : World} {ba : Nat} {nm : List UInt8} {done : List Pt} {pv v' : Value} {p : Pt} (h : TkW w0 ba nm done pv w)
    (hown : w'.ownsRow (ba + 1) 74 4 v' (done.length + 1) (ptcells done ++ [.string (sb p.ref), .int .i64 p.lo, .int .i64 p.hi, .int .u8 (p.dir : Int)])) (hg : w.grownBy w' pv.ownBlock)
    (hp : p.ref.length ≤ maxLen ∧ p.dir < 256) : TkW w0 ba nm (done ++ [p]) v' (w'.setCell ⟨ba, 1, none⟩ v') := by
  have hlt := h.own.lt
  have l1 := heap_lt2 h.r1
  have l2 := heap_lt2 h.r2
  have l3 := heap_lt2 h.bx
  have lo := h.lo
  have hkeep : ∀ k, k < w.heap.size → k < ba + 1 → w'.heap[k]? = w.heap[k]? := fun k hk hk2 => hg.block k hk (by intro e; have := (hlt k e.symm).1; omega)
  have hoth : ∀ k, k ≠ ba → (w'.setCell ⟨ba, 1, none⟩ v').heap[k]? = w'.heap[k]? := fun k hk => heap_setCell_other w' ⟨ba, 1, none⟩ k v' (fun e => hk (by simpa using e))
  refine ⟨(hoth _ (by omega)).trans ((hkeep _ l1 (by omega)).trans h.r1), (hoth _ (by omega)).trans ((hkeep _ l2 (by omega)).trans h.r2), ?_, ?_, ?_, lo, ?_⟩
  · exact heap_setCell_same w' ba 1 _ _ _ ((hkeep _ l3 (by omega)).trans h.bx)
  · have h2 : w'.ownsRow (ba + 1) 74 4 v' (done ++ [p]).length (ptcells (done ++ [p])) := by rw [ptcells_snoc, List.length_append]; exact hown
    obtain ⟨hl, h3 | ⟨g, cap, cur, hv, hgb, hh, r⟩⟩ := h2
    · exact ⟨hl, .inl h3⟩
    · exact ⟨hl, .inr ⟨g, cap, cur, hv, hgb, (hoth g (by omega)).trans hh, r⟩⟩
  · intro q hq
    rw [List.mem_append, List.mem_singleton] at hq
    rcases hq with hq | rfl
    · exact h.ok q hq
    · exact hp
  · exact ((h.be.grown hg (by omega) (fun k hk => by have := (hlt k hk).1; omega)).setCell (by simp; omega) _)
def TakPost (L : List Ln) (w : World) (e : Ending) (w' : World) : Prop :=
  ∃ pv, e = .returned (.tuple #[.agg #[.string (sb (takeO L).nm), pv], .agg #[.int .i64 (takeO L).dl, .int .i64 (takeO L).dc, .int .i64 (takeO L).de], .bool (takeO L).bad]) ∧ PtsR w' pv (takeO L).pts ∧ Below w.heap.size w w'
theorem takPost_mk {L : List Ln} {O : TkO} (h : takeO L = O) {w w' : World} {nm : ByteArray} {pv : Value} {a b c : Int} {f : Bool} (h1 : sb O.nm = nm) (h2 : PtsR w' pv O.pts) (h3 : O.dl = a) (h4 : O.dc = b) (h5 : O.de = c) (h6 : O.bad = f) (hb : Below w.heap.size w w') :
    TakPost L w (.returned (.tuple #[.agg #[.string nm, pv], .agg #[.int .i64 a, .int .i64 b, .int .i64 c], .bool f])) w' := by
  subst h h1 h3 h4 h5 h6; exact ⟨pv, rfl, h2, hb⟩
theorem hd_fields {x : Ln} (h : (hd2 x).endB = false) : 0 < x.2.length := by
  rcases Nat.eq_zero_or_pos x.2.length with h0 | h0
  · exfalso
    have h1 : (hd1 x).bad = true := by
      unfold hd1
      have hg : (scan0 x.1 x.2).got = false := by unfold Sc.got; rw [show (scan0 x.1 x.2).fs.length = 0 from h0]; simp
      rw [Sc.tk_no hg, Sc.take_end rfl (by show ¬ 0 < x.2.length; omega)]; rfl
    have h2 : hd2 x = hd1 x := by
      unfold hd2
      rw [Sc.tk_no (by unfold Sc.got; rw [h1]; rfl), Sc.take_bad h1]
    rw [h2] at h
    unfold Sc.endB at h
    rw [h1] at h; cases h
  · exact h0
theorem own_set {base : Nat} {w : World} {e : TypeId} {size n : Nat} {v : Value} {xs : List Value} (h : w.ownsRow base e size v n xs) {b j : Nat} (hb : b < base) (u : Value) : (w.setCell ⟨b, j, none⟩ u).ownsRow base e size v n xs := by
  obtain ⟨hl, h2 | ⟨g, cap, cur, hv, hg, hh, r⟩⟩ := h
  · exact ⟨hl, .inl h2⟩
  · exact ⟨hl, .inr ⟨g, cap, cur, hv, hg, (heap_setCell_other w ⟨b, j, none⟩ g u (fun e => by simp only at e; omega)).trans hh, r⟩⟩
theorem TkW.fin {w0 w : World} {ba : Nat} {nm : List UInt8} {done : List Pt} {pv : Value} (h : TkW w0 ba nm done pv w) (a b c d e : Value) :
    PtsR (((((w.setCell ⟨w0.heap.size, 0, none⟩ a).setCell ⟨w0.heap.size, 1, none⟩ b).setCell ⟨w0.heap.size + 1, 0, none⟩ c).setCell ⟨w0.heap.size + 1, 1, none⟩ d).setCell ⟨w0.heap.size + 1, 2, none⟩ e) pv done := by
  have lo := h.lo
  exact ⟨Rd.of_own (own_set (own_set (own_set (own_set (own_set h.own (by omega) a) (by omega) b) (by omega) c) (by omega) d) (by omega) e), h.ok⟩
theorem takeO_pos {L : List Ln} (h : 0 < L.length) : takeO L = if (hd2 (L[0]'h)).endB then tkBad (hd2 (L[0]'h)) else ptsGo (hdNm (L[0]'h)) (L[0]'h).1 (fld (L[0]'h).2 0).2 [] (L.drop 1) := by
  cases L with
  | nil => exact absurd h (by simp)
  | cons x r => rfl
set_option maxRecDepth 100000 in
set_option maxHeartbeats 8000000 in
theorem take15_any (v : Value) (L : List Ln) (w : World) (E : Env w) (h : LnsR w v L) (hN : L.length ≤ 4398046511104) :
    Calls Tryz.prog 14 #[v] w (TakPost L w) := by
  obtain ⟨A, c, rfl, hc, hm⟩ := h.form
  unfold maxLen at hm
  have H := Lib.hid h
  clear h
  obtain ⟨n, hnn⟩ : ∃ n, L.length = n := ⟨_, rfl⟩
  rw [hnn] at hc hN ⊢
  have HN := Lib.hid hnn
  have Z1 : Hid (AwB ((w.alloc (.cells #[.string (sb []), .slice none 0 0] 36)).alloc (.cells #[.int .i64 0, .int .i64 0, .int .i64 0] 39)) w.heap.size [] (.slice none 0 0)) :=
    (((Below.refl _ _).alloc (Nat.le_refl _) _).block w.heap.size (by simp)).trans (heap_alloc_new w _)
  have Z2 : Hid (DgT ((w.alloc (.cells #[.string (sb []), .slice none 0 0] 36)).alloc (.cells #[.int .i64 0, .int .i64 0, .int .i64 0] 39)) (w.heap.size + 1) 0 0 0) := by
    have := heap_alloc_new (w.alloc (.cells #[.string (sb []), .slice none 0 0] 36)) (.cells #[.int .i64 0, .int .i64 0, .int .i64 0] 39)
    rw [World.size_alloc] at this
    exact this
  have ZB : Hid (Below w.heap.size w ((w.alloc (.cells #[.string (sb []), .slice none 0 0] 36)).alloc (.cells #[.int .i64 0, .int .i64 0, .int .i64 0] 39))) := ((Below.refl _ _).alloc (Nat.le_refl _) _).alloc (by simp) _
  rcases Nat.eq_zero_or_pos n with h0 | hpos
  · have HL : Hid (takeO L = ⟨[], [], 1, 1, 4, true⟩) := by
      have : L = [] := List.eq_nil_of_length_eq_zero (hnn.trans h0)
      unfold Hid; rw [this]; rfl
    subst h0
    clear hnn
    go_enter Tryz.func14, Tryz.ntmps14
    go_wp2
    exact bodyPost_ret (v := .tuple #[.agg #[.string ⟨#[]⟩, .slice none 0 0], .agg #[.int .i64 1, .int .i64 1, .int .i64 4], .bool true]) (by simp [results, Tryz.results14, go_sem]) rfl (takPost_mk HL.out rfl (ptsR_nil _) rfl rfl rfl rfl (by repeat (first | with_reducible exact Below.refl _ _ | with_reducible refine Below.setCell ?_ (by first | (simp; done) | (simp; omega)) _ | with_reducible refine Below.alloc ?_ (by first | (simp; done) | (simp; omega)) _)))
  · obtain ⟨g0, o0, c0', fv0, hA, hg0, k0, k1, hfs0, hok0⟩ := H.out.at_ (k := 0) (by omega)
    rw [hnn] at hA
    simp only [Value.slice.injEq, true_and] at hA
    obtain ⟨rfl, rfl⟩ := hA
    obtain ⟨x0, hx0⟩ : ∃ x, L[0]'(by omega) = x := ⟨_, rfl⟩
    rw [hx0] at k0 hfs0 hok0
    simp only [Nat.zero_mul, Nat.add_zero] at k0 k1
    have HTO : Hid (takeO L = if (hd2 x0).endB then tkBad (hd2 x0) else ptsGo (hdNm x0) x0.1 (fld x0.2 0).2 [] (L.drop 1)) := by
      have := takeO_pos (L := L) (by omega)
      rw [hx0] at this
      exact this
    have HOK0 := Lib.hid hok0
    have HFS0 := Lib.hid (hfs0.grow' ZB.out)
    have HFSW := Lib.hid hfs0
    have hn0 : (0 : Int) < (n : Int) := by omega
    have hn0' : ((n : Int) == 0) = false := by rw [beq_eq_false_iff_ne]; omega
    obtain ⟨n0, hnum0⟩ : ∃ a, x0.1 = a := ⟨_, rfl⟩
    rw [hnum0] at k0
    have HNUM0 := Lib.hid hnum0
    clear hnn hx0 hok0 hfs0 hnum0
    go_enter Tryz.func14, Tryz.ntmps14
    go_wp2_with fail
    refine (scan_any n0 _ x0.2 _ HFS0.out HOK0.out.1).mono ?_
    rintro e w1 ⟨g, rfl, hg, hsc, hb1⟩
    have D1 : Hid (HdR ScP w g (scan0 x0.1 x0.2) w1) := by
      refine ⟨by rw [HNUM0.out]; exact hsc, (hb1.block _ (heap_lt2 Z1.out)).trans Z1.out, (hb1.block _ (heap_lt2 Z2.out)).trans Z2.out, ?_, Below.then_ ZB.out hb1⟩
      simp at hg; omega
    have HWD := Lib.hid (wdr1 w1 g ⟨#[65, 73, 82, 87, 65, 89]⟩ D1.out.sc.lt)
    have D1w := Lib.hid (D1.out.palloc (.cells #[.string ⟨#[65, 73, 82, 87, 65, 89]⟩] 9))
    clear hg hsc hb1 D1 Z1 Z2 ZB HFS0
    go_wp2_with fail
    refine (word_any (scan0 x0.1 x0.2) g _ airW _ D1w.out.sc HWD.out).mono ?_
    rintro e w2 ⟨rfl, hp⟩
    have D2 : Hid (HdR ScP w g (hd1 x0) w2) := D1w.out.call hp.1 hp.2
    have LT1 : Hid ((hd1 x0).text.length ≤ 140737488351232) := LnOk.text (by rw [hd1_fs]; exact HOK0.out.2)
    clear hp D1w HWD
    go_wp2_with fail
    refine (nameS_any 8 (hd1 x0) g _ LT1.out D2.out.sc).mono ?_
    rintro e w3 ⟨rfl, hp⟩
    have D3 : Hid (HdR ScP w g (hd2 x0) w3) := D2.out.call hp.1 hp.2
    have HNM0 : Hid ((hd1 x0).tv [] (nameSV 8) = hdNm x0) := rfl
    rw [HNM0.out]
    have HNML : Hid ((hdNm x0).length ≤ maxLen) := by
      unfold Hid hdNm Sc.tv nameSV
      split
      · split
        · have := LT1.out; unfold maxLen; omega
        · simp
      · simp
    obtain ⟨nm, hnm⟩ : ∃ a, hdNm x0 = a := ⟨_, rfl⟩
    rw [hnm] at HNML HTO ⊢
    clear hp D2 hnm HNM0
    obtain ⟨ba, hba⟩ : ∃ b, w3.heap.size = b := ⟨_, rfl⟩
    have T3 : Hid (TkW w ba nm [] (.slice none 0 0) (w3.alloc (.cells #[.string (sb nm), .slice none 0 0] 36))) := by
      have hb : Below w3.heap.size w3 (w3.alloc (.cells #[.string (sb nm), .slice none 0 0] 36)) := (Below.refl _ _).alloc (Nat.le_refl _) _
      exact ⟨(hb.block _ (heap_lt2 D3.out.r1)).trans D3.out.r1, (hb.block _ (heap_lt2 D3.out.r2)).trans D3.out.r2, by rw [← hba]; exact heap_alloc_new w3 _, World.ownsRow_nil _ _ _ _, by simp, by have := heap_lt2 D3.out.r2; omega, Below.then_ D3.out.be hb⟩
    have D4 := Lib.hid (D3.out.palloc (.cells #[.string (sb nm), .slice none 0 0] 36))
    have HBA := Lib.hid hba
    clear D3 hba
    go_wp2_with fail
    refine (endS_any (hd2 x0) g _ D4.out.sc).mono ?_
    rintro e w4 ⟨rfl, hb⟩
    rw [HBA.out]
    have T4 := Lib.hid (T3.out.then_ hb)
    clear hb D4 T3
    obtain ⟨S, hS⟩ : ∃ S, hd2 x0 = S := ⟨_, rfl⟩
    rw [hS] at HTO ⊢
    have HS := Lib.hid hS
    obtain ⟨el, hel⟩ : ∃ x, S.endL = x := ⟨_, rfl⟩
    obtain ⟨ec, hec⟩ : ∃ x, S.endC = x := ⟨_, rfl⟩
    obtain ⟨ee, hee⟩ : ∃ x, S.endE = x := ⟨_, rfl⟩
    have HBD : Hid (S.endB = true → takeO L = ⟨[], [], el, ec, ee, true⟩) := by
      intro hb; rw [HTO.out, if_pos hb]; unfold tkBad; rw [hel, hec, hee]
    rw [hel, hec, hee]
    clear hS hel hec hee
    have T5 := Lib.hid (T4.out.alloc (.cells #[.int .i64 el, .int .i64 ec, .int .i64 ee] 39))
    cases hend : S.endB
    · have HGO : Hid (takeO L = ptsGo nm x0.1 (fld x0.2 0).2 [] (L.drop 1)) := by unfold Hid; rw [HTO.out, hend]; rfl
      have HLF : Hid (0 < x0.2.length) := hd_fields (by rw [HS.out]; exact hend)
      clear hend HBD HTO T4 LT1
      go_wp2_with fail
      go_loopw [9] (fun iv wr => ∃ (k : Nat) (done : List Pt) (pv : Value), iv = .int .i64 k ∧ 1 ≤ k ∧ k ≤ n ∧ done.length < k ∧ Hid (takeO L = ptsGo nm x0.1 (fld x0.2 0).2 done (L.drop k)) ∧ Hid (TkW w ba nm done pv wr)) (fun iv _ => n - (intOf iv).toNat)
      case atStart => exact ⟨1, [], .slice none 0 0, rfl, Nat.le_refl _, hpos, by simp, HGO, T5⟩
      case round =>
        obtain ⟨k, done, pv, rfl, hk1, hk, hdl, hgo, T6⟩ := hrel
        by_cases hlt : k < n
        · have hkl : k < L.length := by have := HN.out; omega
          obtain ⟨g1, o1, c1', fv, hA1, hg1, y0, y1, hfs, hok⟩ := (H.out.below T6.out.be).at_ hkl
          simp only [Value.slice.injEq, Option.some.injEq, Addr.mk.injEq, true_and, and_true] at hA1
          obtain ⟨⟨rfl, rfl⟩, rfl⟩ := hA1
          have hst := ptsGo_step nm x0.1 (fld x0.2 0).2 done hkl
          obtain ⟨x, hxx⟩ : ∃ x, L[k] = x := ⟨_, rfl⟩
          rw [hxx] at y0 hfs hok hst
          rw [HN.out] at hst
          obtain ⟨lb, hlb⟩ : ∃ b, decide (n ≤ k + 1) = b := ⟨_, rfl⟩
          rw [hlb] at hst
          have elb : ((k : Int) == (n : Int) - 1) = lb := by
            rw [← hlb, Bool.eq_iff_iff, beq_iff_eq, decide_eq_true_iff]; omega
          have HST := Lib.hid hst
          have HOK := Lib.hid hok
          have HFS := Lib.hid hfs
          have E6 := E.below T6.out.be
          have hki : (k : Int) < (n : Int) := by omega
          obtain ⟨num, hnum⟩ : ∃ a, x.1 = a := ⟨_, rfl⟩
          rw [hnum] at y0
          have HNUM := Lib.hid hnum
          have htp := takePoint_any x lb fv _ E6 HFS.out HOK.out
          rw [HNUM.out] at htp
          have HTP := Lib.hid htp
          have HPO : Hid ((viaP x lb).ref.length ≤ maxLen ∧ (viaP x lb).dir < 256) := by
            have h1 : (via1 x).text.length ≤ 140737488351232 := LnOk.text (by rw [via1_fs]; exact HOK.out.2)
            have h2 := dir_nat x
            unfold Hid viaP
            split
            · exact ⟨by unfold maxLen; show (via1 x).text.length ≤ _; omega, by show 0 < 256; decide⟩
            · refine ⟨by unfold maxLen; show (via1 x).text.length ≤ _; omega, ?_⟩
              show (viaDir x % 256).toNat < 256
              omega
          clear hxx hst hok hfs hlb hnum htp
          go_wp2_with fail
          refine HTP.out.mono ?_
          rintro e w5 ⟨rfl, hb⟩
          have T7 := Lib.hid (T6.out.then_ hb)
          obtain ⟨P, hP⟩ : ∃ P, viaP x lb = P := ⟨_, rfl⟩
          obtain ⟨S1, hS1⟩ : ∃ S, viaS x lb = S := ⟨_, rfl⟩
          rw [hP] at HST HPO ⊢
          rw [hS1] at HST ⊢
          obtain ⟨fl, hfl⟩ : ∃ x, S1.endL = x := ⟨_, rfl⟩
          obtain ⟨fc, hfc⟩ : ∃ x, S1.endC = x := ⟨_, rfl⟩
          obtain ⟨fe, hfe⟩ : ∃ x, S1.endE = x := ⟨_, rfl⟩
          have HBD1 : Hid (S1.endB = true → takeO L = ⟨[], [], fl, fc, fe, true⟩) := by
            intro hb; rw [hgo.out, HST.out, if_pos hb]; unfold tkBad; rw [hfl, hfc, hfe]
          have HGD1 : Hid (S1.endB = false → takeO L = ptsGo nm x0.1 (fld x0.2 0).2 (done ++ [P]) (L.drop (k + 1))) := by
            intro hb; rw [hgo.out, HST.out, if_neg (by rw [hb]; decide)]
          rw [hfl, hfc, hfe]
          clear hP hS1 hfl hfc hfe hb T6 HTP y0 y1 HST hgo hg1
          obtain ⟨r0, r1, r2⟩ := T7.out.r1.cells
          obtain ⟨q0, q1⟩ := T7.out.r1.frees
          obtain ⟨d0, d1, d2, d3⟩ := T7.out.r2.cells
          obtain ⟨e0, e1, e2⟩ := T7.out.r2.frees
          obtain ⟨b0, b1, b2⟩ := T7.out.bx.cells
          obtain ⟨b3, b4⟩ := T7.out.bx.frees
          have HBE := Lib.hid T7.out.be
          cases hend1 : S1.endB
          · have HG := Lib.hid (HGD1.out hend1)
            obtain ⟨ip, hip, hz0, hz1, hz2⟩ := info_parts infoPt
            have T8 := Lib.hid ((T7.out.alloc (.cells #[.string (sb P.ref), .int .i64 P.lo, .int .i64 P.hi, .int .u8 (P.dir : Int)] 74)).alloc (.cells #[.int .i64 fl, .int .i64 fc, .int .i64 fe] 39))
            clear hend1 HBD1 HGD1
            have HNEWS : Hid (∀ j u, [.string (sb P.ref), .int .i64 P.lo, .int .i64 P.hi, .int .u8 (P.dir : Int)][j]? = some u → (((w5.alloc (.cells #[.string (sb P.ref), .int .i64 P.lo, .int .i64 P.hi, .int .u8 (P.dir : Int)] 74)).alloc (.cells #[.int .i64 fl, .int .i64 fc, .int .i64 fe] 39)).alloc (.cells #[.string (sb P.ref), .int .i64 P.lo, .int .i64 P.hi, .int .u8 (P.dir : Int)] 74)).cell? ((⟨w5.heap.size + 1 + 1, 0, none⟩ : Addr).add j) = some u) := by
              have h := heap_alloc_new ((w5.alloc (.cells #[.string (sb P.ref), .int .i64 P.lo, .int .i64 P.hi, .int .u8 (P.dir : Int)] 74)).alloc (.cells #[.int .i64 fl, .int .i64 fc, .int .i64 fe] 39)) (.cells #[.string (sb P.ref), .int .i64 P.lo, .int .i64 P.hi, .int .u8 (P.dir : Int)] 74)
              simp only [World.size_alloc] at h
              exact World.news_of_block (cs := #[.string (sb P.ref), .int .i64 P.lo, .int .i64 P.hi, .int .u8 (P.dir : Int)]) (t := 74) (fr := (0, 0)) h
            have T8b := Lib.hid (T8.out.alloc (.cells #[.string (sb P.ref), .int .i64 P.lo, .int .i64 P.hi, .int .u8 (P.dir : Int)] 74))
            clear T7 d0 d1 d2 d3 e0 e1 e2 r0 r1 r2 q0 q1
            go_wp2_with (at_builtin; refine wpList_append_own_wide _ rfl (.tmp 61) (.tmp 63) 34 rfl (ba + 1) 74 ip (.agg #[.string ⟨#[]⟩, .int .i64 0, .int .i64 0, .int .u8 0]) 4 40 Tryz.underlying34 hip hz0 hz1 hz2 rfl (by decide) pv done.length (ptcells done) rfl T8b.out.own ⟨w5.heap.size + 1 + 1, 0, none⟩ 1 1 [.string (sb P.ref), .int .i64 P.lo, .int .i64 P.hi, .int .u8 (P.dir : Int)] rfl rfl HNEWS.out (by simp [Value.oneCell']) (by unfold maxLen; omega) (by omega) (by simp; omega) ?_)
            intro v' w' hown' hgrow _
            obtain ⟨Av, cv, hvf, _, _⟩ := (Rd.of_own hown').form
            subst hvf
            have T9 := Lib.hid (T8b.out.snoc hown' hgrow HPO.out)
            have hb' : w'.cell? ⟨ba, 1, none⟩ = some pv := World.cell?_of_block (a := ⟨ba, 1, none⟩) (hgrow.block ba (by simp; omega) (by intro e; have := (T8b.out.own.lt ba e.symm).1; omega)) |>.trans T8b.out.bx.cells.2.1
            have hf' : w'.frozen? ⟨ba, 1, none⟩ = false := World.frozen?_of_block (a := ⟨ba, 1, none⟩) (hgrow.block ba (by simp; omega) (by intro e; have := (T8b.out.own.lt ba e.symm).1; omega)) |>.trans T8b.out.bx.frees.2
            clear hown' hgrow T8 T8b HNEWS b0 b1 b2 b3 b4
            go_wp2
            go_roundw
            case rel => exact ⟨k + 1, done ++ [P], _, by go_num, by omega, hlt, by rw [List.length_append, List.length_singleton]; omega, HG, T9⟩
            case measure => simp [intOf]; omega
          · have HL := Lib.hid (HBD1.out hend1)
            clear hend1 HBD1 HGD1 T7
            go_wp2
            go_region
            go_wp2
            exact bodyPost_ret (v := .tuple #[.agg #[.string ⟨#[]⟩, .slice none 0 0], .agg #[.int .i64 fl, .int .i64 fc, .int .i64 fe], .bool true]) (by simp [results, Tryz.results14, go_sem, r0, r1, r2, d0, d1, d2, d3]) rfl (takPost_mk HL.out rfl (ptsR_nil _) rfl rfl rfl rfl (by repeat (first | with_reducible exact HBE.out | with_reducible refine Below.setCell ?_ (by first | (simp; done) | (simp; omega)) _ | with_reducible refine Below.drew ?_ | with_reducible refine below_drewN' ?_ _ | with_reducible refine Below.alloc ?_ (by first | (simp; done) | (have := HBE.out.size; simp; omega) | exact HBE.out.size) _)))
        · have hki : (n : Int) ≤ (k : Int) := by omega
          have HEND : Hid (takeO L = if chkA nm done = 0 then ⟨nm, done, 0, 0, 0, false⟩ else ⟨[], [], x0.1, (fld x0.2 0).2, chkA nm done, true⟩) := by
            unfold Hid; rw [hgo.out, ptsGo_end nm _ _ done (by have := HN.out; omega)]
          obtain ⟨bb, oo, cc, hfv, hbb, hc0, hc1, _⟩ := HFSW.out.at_ HLF.out
          subst hfv
          obtain ⟨Ap, cp, hpv, _, _⟩ := T6.out.pts.form
          subst hpv
          obtain ⟨b0, b1, b2⟩ := T6.out.bx.cells
          clear hgo hc0
          go_wp2_with fail
          refine (check_any (sb nm) _ done _ T6.out.pts HNML.out).mono ?_
          rintro e w5 ⟨rfl, hb⟩
          rw [bl_sb]
          have T7 := Lib.hid (T6.out.then_ hb)
          obtain ⟨er, her⟩ : ∃ x, chkA nm done = x := ⟨_, rfl⟩
          rw [her] at HEND ⊢
          clear hb T6 her b0 b1 b2
          obtain ⟨r0, r1, r2⟩ := T7.out.r1.cells
          obtain ⟨q0, q1⟩ := T7.out.r1.frees
          obtain ⟨d0, d1, d2, d3⟩ := T7.out.r2.cells
          obtain ⟨e0, e1, e2⟩ := T7.out.r2.frees
          obtain ⟨b0, b1, b2⟩ := T7.out.bx.cells
          have HBE := Lib.hid T7.out.be
          have hlo := T7.out.lo
          have hba1 : w.heap.size < ba := by omega
          have hba2 : w.heap.size + 1 < ba := by omega
          by_cases h0 : er = 0
          · have ee1 : (er != 0) = false := bne_eq_false_iff_eq.2 h0
            have HL : Hid (takeO L = ⟨nm, done, 0, 0, 0, false⟩) := by unfold Hid; rw [HEND.out, if_pos h0]
            clear h0 HEND hlo
            go_wp2
            exact bodyPost_ret (v := .tuple #[.agg #[.string (sb nm), .slice Ap done.length cp], .agg #[.int .i64 0, .int .i64 0, .int .i64 0], .bool false]) (by simp [results, Tryz.results14, go_sem, r0, r1, r2, d0, d1, d2, d3]) rfl (takPost_mk HL.out rfl (T7.out.fin _ _ _ _ _) rfl rfl rfl rfl (by repeat (first | with_reducible exact HBE.out | with_reducible refine Below.setCell ?_ (by first | (simp; done) | (simp; omega)) _)))
          · have ee1 : (er != 0) = true := bne_iff_ne.2 h0
            have HL : Hid (takeO L = ⟨[], [], x0.1, (fld x0.2 0).2, er, true⟩) := by unfold Hid; rw [HEND.out, if_neg h0]
            have y0 := (HBE.out.cell (p := ⟨g0, o0, none⟩) hg0).trans k0
            have y1 := (HBE.out.cell (p := ⟨g0, o0 + 1, none⟩) hg0).trans k1
            have y2 := (HBE.out.cell (p := ⟨bb, oo + 0 * 2 + 1, none⟩) hbb).trans hc1
            simp only [Nat.zero_mul, Nat.add_zero] at y2
            have hfl0 : 0 < x0.2.length := HLF.out
            have hfi : (0 : Int) < (x0.2.length : Int) := by omega
            rw [HNUM0.out] at HL
            clear h0 HEND hlo hc1
            go_wp2
            go_region
            go_wp2
            exact bodyPost_ret (v := .tuple #[.agg #[.string ⟨#[]⟩, .slice none 0 0], .agg #[.int .i64 n0, .int .i64 (fld x0.2 0).2, .int .i64 er], .bool true]) (by simp [results, Tryz.results14, go_sem, r0, r1, r2, d0, d1, d2, d3]) rfl (takPost_mk HL.out rfl (ptsR_nil _) rfl rfl rfl rfl (by repeat (first | with_reducible exact HBE.out | with_reducible refine Below.setCell ?_ (by first | (simp; done) | (simp; omega)) _ | with_reducible refine Below.drew ?_ | with_reducible refine below_drewN' ?_ _ | with_reducible refine Below.alloc ?_ (by first | (simp; done) | (have := HBE.out.size; simp; omega) | exact HBE.out.size) _)))
    · have HL := Lib.hid (HBD.out hend)
      obtain ⟨r0, r1, r2⟩ := T4.out.r1.cells
      obtain ⟨q0, q1⟩ := T4.out.r1.frees
      obtain ⟨d0, d1, d2, d3⟩ := T4.out.r2.cells
      obtain ⟨e0, e1, e2⟩ := T4.out.r2.frees
      have HBE := Lib.hid T4.out.be
      clear hend
      go_wp2
      go_region
      go_wp2
      exact bodyPost_ret (v := .tuple #[.agg #[.string ⟨#[]⟩, .slice none 0 0], .agg #[.int .i64 el, .int .i64 ec, .int .i64 ee], .bool true]) (by simp [results, Tryz.results14, go_sem, r0, r1, r2, d0, d1, d2, d3]) rfl (takPost_mk HL.out rfl (ptsR_nil _) rfl rfl rfl rfl (by repeat (first | with_reducible exact HBE.out | with_reducible refine Below.setCell ?_ (by first | (simp; done) | (simp; omega)) _ | with_reducible refine Below.drew ?_ | with_reducible refine below_drewN' ?_ _ | with_reducible refine Below.alloc ?_ (by first | (simp; done) | (simp; omega) | exact HBE.out.size) _)))
end Go.Proofs.YtinkdlmikhcpjaaGreatDoor
namespace Go.Proofs.YtinkdlmikhcpjaaGreatDoor
open Go.RowKit
set_option linter.unusedVariables false
set_option linter.unusedSimpArgs false

theorem own_ne {base n : Nat} {w : World} {pv : Value} {xs : List Value} (h : w.ownsRow base 74 4 pv n xs) {g : Nat} {cs : Array Value} (hg : w.heap[g]? = some (.cells cs 155 (0, 0))) : ∀ k, pv.ownBlock = some k → k ≠ g := by
  intro k hk
  rintro rfl
  obtain ⟨hl, ⟨rfl, _⟩ | ⟨b, cap, cur, rfl, hb, hh, r⟩⟩ := h
  · cases hk
  · simp only [Value.ownBlock, Option.some.injEq] at hk
    subst hk
    rw [hh] at hg
    simp at hg
/-- the reference's scanner, whose fields came in, beside the airway that is filled -/
structure RqR (w0 : World) (ba g : Nat) (nm : List UInt8) (done : List Pt) (pv v : Value) (s : Sc) (w : World) : Prop where
  tk : TkW w0 ba nm done pv w
  hb : w.heap[g]? = some (.cells (rscC s v) 155 (0, 0))
  nx : s.nx ≤ s.fs.length
  fr : FsR w0 w0.heap.size v s.fs
  bg : ba < g
theorem RqR.sc {w0 w : World} {ba g : Nat} {nm : List UInt8} {done : List Pt} {pv v : Value} {s : Sc} (h : RqR w0 ba g nm done pv v s w) : ScQ w g s :=
  ⟨h.nx, v, h.hb, (h.fr.keep fun k hk => h.tk.be.block k hk).mono (by have := h.tk.lo; have := h.bg; omega)⟩
theorem RqR.then_ {w0 w w' : World} {ba g : Nat} {nm : List UInt8} {done : List Pt} {pv v : Value} {s : Sc} (h : RqR w0 ba g nm done pv v s w) (hb : Below w.heap.size w w') : RqR w0 ba g nm done pv v s w' :=
  ⟨h.tk.then_ hb, (hb.block g (heap_lt2 h.hb)).trans h.hb, h.nx, h.fr, h.bg⟩
theorem RqR.alloc {w0 w : World} {ba g : Nat} {nm : List UInt8} {done : List Pt} {pv v : Value} {s : Sc} (h : RqR w0 ba g nm done pv v s w) (o : Obj) : RqR w0 ba g nm done pv v s (w.alloc o) := h.then_ ((Below.refl _ _).alloc (Nat.le_refl _) o)
theorem RqR.call {w0 w w' : World} {ba g : Nat} {nm : List UInt8} {done : List Pt} {pv v : Value} {s s' : Sc} (h : RqR w0 ba g nm done pv v s w) (hp : ScQPost s' g w w') (hf : s'.fs = s.fs) : RqR w0 ba g nm done pv v s' w' := by
  have hne := own_ne h.tk.own h.hb
  have bg := h.bg
  have lo := h.tk.lo
  have l1 := heap_lt2 h.tk.r1
  have l2 := heap_lt2 h.tk.r2
  have l3 := heap_lt2 h.tk.bx
  obtain ⟨⟨hn, v', hb', _⟩, ho⟩ := hp
  have hv : v' = v := by
    have h1 := ho.c1 v (blkCell h.hb 1 rfl)
    rw [blkCell hb' 1 rfl] at h1
    exact Option.some.inj h1
  subst hv
  have keep : ∀ k, k < w.heap.size → k ≠ g → w'.heap[k]? = w.heap[k]? := fun k hk hkg => ho.block k hk (by intro e; injection e with e; exact hkg e)
  refine ⟨⟨(keep _ l1 (by omega)).trans h.tk.r1, (keep _ l2 (by omega)).trans h.tk.r2, (keep _ l3 (by omega)).trans h.tk.bx, ?_, h.tk.ok, lo, ho.below h.tk.be (by omega) (by omega)⟩, hb', hn, by rw [hf]; exact h.fr, bg⟩
  have hlt := h.tk.own.lt
  obtain ⟨hl, h3 | ⟨b, cap, cur, hpv, hgb, hh, r⟩⟩ := h.tk.own
  · exact ⟨hl, .inl h3⟩
  · exact ⟨hl, .inr ⟨b, cap, cur, hpv, hgb, (keep b (heap_lt2 hh) (hne b (by rw [hpv]; rfl))).trans hh, r⟩⟩
/-- with the point that is filled -/
structure RpR (w0 : World) (ba g bp : Nat) (nm : List UInt8) (done : List Pt) (pv v : Value) (s : Sc) (p : Pt) (w : World) : Prop where
  q : RqR w0 ba g nm done pv v s w
  bx : PtB w bp p
  gb : g < bp
  ob : ∀ k, pv.ownBlock = some k → k < g
theorem RpR.then_ {w0 w w' : World} {ba g bp : Nat} {nm : List UInt8} {done : List Pt} {pv v : Value} {s : Sc} {p : Pt} (h : RpR w0 ba g bp nm done pv v s p w) (hb : Below w.heap.size w w') : RpR w0 ba g bp nm done pv v s p w' :=
  ⟨h.q.then_ hb, (hb.block bp (heap_lt2 h.bx)).trans h.bx, h.gb, h.ob⟩
theorem RpR.alloc {w0 w : World} {ba g bp : Nat} {nm : List UInt8} {done : List Pt} {pv v : Value} {s : Sc} {p : Pt} (h : RpR w0 ba g bp nm done pv v s p w) (o : Obj) : RpR w0 ba g bp nm done pv v s p (w.alloc o) := h.then_ ((Below.refl _ _).alloc (Nat.le_refl _) o)
theorem RpR.call {w0 w w' : World} {ba g bp : Nat} {nm : List UInt8} {done : List Pt} {pv v : Value} {s s' : Sc} {p : Pt} (h : RpR w0 ba g bp nm done pv v s p w) (hp : ScQPost s' g w w') (hf : s'.fs = s.fs) : RpR w0 ba g bp nm done pv v s' p w' :=
  ⟨h.q.call hp hf, (hp.2.block bp (heap_lt2 h.bx) (by intro e; injection e with e; have := h.gb; omega)).trans h.bx, h.gb, h.ob⟩
theorem RpR.set {w0 w : World} {ba g bp : Nat} {nm : List UInt8} {done : List Pt} {pv v : Value} {s : Sc} {p p' : Pt} (h : RpR w0 ba g bp nm done pv v s p w) {j : Nat} {u : Value}
    (hx : (#[.string (sb p.ref), .int .i64 p.lo, .int .i64 p.hi, .int .u8 (p.dir : Int)] : Array Value).setIfInBounds j u = #[.string (sb p'.ref), .int .i64 p'.lo, .int .i64 p'.hi, .int .u8 (p'.dir : Int)]) : RpR w0 ba g bp nm done pv v s p' (w.setCell ⟨bp, j, none⟩ u) := by
  have gb := h.gb
  have bg := h.q.bg
  have lo := h.q.tk.lo
  have hob := h.ob
  have ho : ∀ k, k ≠ bp → (w.setCell ⟨bp, j, none⟩ u).heap[k]? = w.heap[k]? := fun k hk => heap_setCell_other w ⟨bp, j, none⟩ k u (fun e => hk (by simpa using e))
  refine ⟨⟨⟨(ho _ (by omega)).trans h.q.tk.r1, (ho _ (by omega)).trans h.q.tk.r2, (ho _ (by omega)).trans h.q.tk.bx, ?_, h.q.tk.ok, lo, h.q.tk.be.setCell (by simp; omega) _⟩, (ho _ (by omega)).trans h.q.hb, h.q.nx, h.q.fr, bg⟩, ?_, gb, hob⟩
  · obtain ⟨hl, h3 | ⟨b, cap, cur, hpv, hgb, hh, r⟩⟩ := h.q.tk.own
    · exact ⟨hl, .inl h3⟩
    · exact ⟨hl, .inr ⟨b, cap, cur, hpv, hgb, (ho b (by have := hob b (by rw [hpv]; rfl); omega)).trans hh, r⟩⟩
  · unfold PtB
    rw [heap_setCell_same w bp j _ _ _ h.bx, hx]
/-- the point is put behind the others -/
theorem RpR.snoc {w0 w w' : World} {ba g bp : Nat} {nm : List UInt8} {done : List Pt} {pv v v' : Value} {s : Sc} {p : Pt} (h : RpR w0 ba g bp nm done pv v s p w)
    (hown : w'.ownsRow (ba + 1) 74 4 v' (done.length + 1) (ptcells done ++ [.string (sb p.ref), .int .i64 p.lo, .int .i64 p.hi, .int .u8 (p.dir : Int)])) (hg : w.grownBy w' pv.ownBlock)
    (hp : p.ref.length ≤ maxLen ∧ p.dir < 256) : RqR w0 ba g nm (done ++ [p]) v' v s (w'.setCell ⟨ba, 1, none⟩ v') := by
  have bg := h.q.bg
  refine ⟨h.q.tk.snoc hown hg hp, ?_, h.q.nx, h.q.fr, bg⟩
  exact (heap_setCell_other w' ⟨ba, 1, none⟩ g v' (fun e => by simp only at e; omega)).trans ((hg.block g (heap_lt2 h.q.hb) (by intro e; exact own_ne h.q.tk.own h.q.hb g e.symm rfl)).trans h.q.hb)
/-- the name is laid -/
theorem RqR.name {w0 w : World} {ba g : Nat} {nm nm' : List UInt8} {done : List Pt} {pv v : Value} {s : Sc} (h : RqR w0 ba g nm done pv v s w) : RqR w0 ba g nm' done pv v s (w.setCell ⟨ba, 0, none⟩ (.string (sb nm'))) := by
  have bg := h.bg
  have lo := h.tk.lo
  have ho : ∀ k, k ≠ ba → (w.setCell ⟨ba, 0, none⟩ (.string (sb nm'))).heap[k]? = w.heap[k]? := fun k hk => heap_setCell_other w ⟨ba, 0, none⟩ k _ (fun e => hk (by simpa using e))
  refine ⟨⟨(ho _ (by omega)).trans h.tk.r1, (ho _ (by omega)).trans h.tk.r2, ?_, own_set h.tk.own (by omega) _, h.tk.ok, lo, h.tk.be.setCell (by simp; omega) _⟩, (ho _ (by omega)).trans h.hb, h.nx, h.fr, bg⟩
  unfold AwB
  rw [heap_setCell_same w ba 0 _ _ _ h.tk.bx]; rfl
/-- where the record has no diagnostic, a word of a direction was there -/
theorem dir_ok {x : Ln} (h : (via5 x).endB = false) : 0 ≤ viaDir x := by
  rcases dir_ways x with hd | hd | hd | hd
  · exfalso
    unfold viaDir at hd
    cases hg : (via4 x).got
    · have h1 : (via5 x).bad = true := by
        unfold via5
        rw [Sc.tk_no hg]
        rcases Sc.got_no hg with hb | ⟨hb, hn⟩
        · rw [Sc.take_bad hb]; exact hb
        · rw [Sc.take_end hb hn]; rfl
      unfold Sc.endB at h
      rw [h1] at h; cases h
    · rw [Sc.tv_got hg] at hd
      have h1 : (via5 x).bad = true := by
        unfold via5
        rw [Sc.tk_got hg]
        have he : wordE dirW (via4 x).text = 4 := by unfold wordE; rw [if_pos hd]
        rw [he]
        have hb : (via4 x).take.bad = false := by
          rw [Sc.take_got hg]
          unfold Sc.got at hg
          rw [Bool.and_eq_true] at hg
          show (via4 x).bad = false
          simpa using hg.1
        rw [Sc.note_set hb _ (by decide)]; rfl
      unfold Sc.endB at h
      rw [h1] at h; cases h
  · omega
  · omega
  · omega
/-- the point as the reference fills it -/
def viaPR (x : Ln) (last : Bool) : Pt := if last then ⟨(via1 x).text, -200000, 6000000, 0⟩ else ⟨(via1 x).text, (via3 x).tv 0 winSLo, (via3 x).tv 0 winSHi, (max (viaDir x) 0).toNat⟩
theorem viaPR_eq {x : Ln} {last : Bool} (h : (viaS x last).endB = false) : viaPR x last = viaP x last := by
  unfold viaPR viaP
  cases last
  · have h2 : (via5 x).endB = false := h
    have h3 := dir_ok h2
    have h4 := dir_nat x
    rw [if_neg (by decide), if_neg (by decide)]
    congr 1
    omega
  · rfl
theorem dirR_nat (x : Ln) : (((max (viaDir x) 0).toNat : Nat) : Int) = max (viaDir x) 0 ∧ 0 ≤ max (viaDir x) 0 ∧ max (viaDir x) 0 ≤ 2 := by
  rcases dir_ways x with h | h | h | h <;> rw [h] <;> decide
def RScanAt (num : Int) (v : Value) (fs : List FldI) (w : World) (e : Ending) (w' : World) : Prop :=
  ∃ g, e = .returned (.pointer (some ⟨g, 0, none⟩)) ∧ w.heap.size ≤ g ∧ w'.heap[g]? = some (.cells (rscC (scan0 num fs) v) 155 (0, 0)) ∧ Below w.heap.size w w'
set_option maxHeartbeats 1000000 in
theorem rscan_at (num : Int) (v : Value) (fs : List FldI) (w : World) (h : FsR w w.heap.size v fs) :
    Calls Tryz.prog 44 #[.agg #[.int .i64 num, v]] w (RScanAt num v fs w) := by
  obtain ⟨A, c, rfl, hc, hm⟩ := fld_le h
  clear h
  have HFIN : Hid (∀ w', w' = (w.alloc (.cells #[.int .i64 num, .slice A fs.length c] 86)).alloc (.cells #[.int .i64 num, .slice A fs.length c, .int .i64 0, .int .i64 1, .int .i64 0, .int .i64 0, .int .i64 0, .bool false] 155) → RScanAt num (.slice A fs.length c) fs w (.returned (.pointer (some ⟨w.heap.size + 1, 0, none⟩))) w') := by
    intro w' hw
    subst hw
    have hb : Below w.heap.size w ((w.alloc (.cells #[.int .i64 num, .slice A fs.length c] 86)).alloc (.cells #[.int .i64 num, .slice A fs.length c, .int .i64 0, .int .i64 1, .int .i64 0, .int .i64 0, .int .i64 0, .bool false] 155)) := ((Below.refl _ _).alloc (Nat.le_refl _) _).alloc (by simp) _
    refine ⟨_, rfl, by omega, ?_, hb⟩
    have := heap_alloc_new (w.alloc (.cells #[.int .i64 num, .slice A fs.length c] 86)) (.cells #[.int .i64 num, .slice A fs.length c, .int .i64 0, .int .i64 1, .int .i64 0, .int .i64 0, .int .i64 0, .bool false] 155)
    rw [show (w.alloc (.cells #[.int .i64 num, .slice A fs.length c] 86)).heap.size = w.heap.size + 1 by simp] at this
    exact this
  obtain ⟨n, hn⟩ : ∃ n, fs.length = n := ⟨_, rfl⟩
  rw [hn] at HFIN hc ⊢
  clear hn
  go_enter Tryz.func44, Tryz.ntmps44
  go_wp2
  go_ret
  exact HFIN.out _ rfl
/-- where the round stands -/
def RndR (L : List Ln) (k : Nat) (nm : List UInt8) (done : List Pt) : Prop :=
  (k = 0 ∧ nm = [] ∧ done = []) ∨ (1 ≤ k ∧ ∃ h : 0 < L.length, takeO L = ptsGo nm (L[0]'h).1 (fld (L[0]'h).2 0).2 done (L.drop k) ∧ 0 < (L[0]'h).2.length)
set_option maxRecDepth 100000 in
set_option maxHeartbeats 8000000 in
theorem rtake15_any (v : Value) (L : List Ln) (w : World) (E : Env w) (h : LnsR w v L) (hN : L.length ≤ 4398046511104) :
    Calls Tryz.prog 15 #[v] w (TakPost L w) := by
  obtain ⟨A, c, rfl, hc, hm⟩ := h.form
  unfold maxLen at hm
  have H := Lib.hid h
  clear h
  obtain ⟨n, hnn⟩ : ∃ n, L.length = n := ⟨_, rfl⟩
  rw [hnn] at hc hN ⊢
  have HN := Lib.hid hnn
  have Z1 : Hid (AwB ((w.alloc (.cells #[.string (sb []), .slice none 0 0] 36)).alloc (.cells #[.int .i64 0, .int .i64 0, .int .i64 0] 39)) w.heap.size [] (.slice none 0 0)) :=
    (((Below.refl _ _).alloc (Nat.le_refl _) _).block w.heap.size (by simp)).trans (heap_alloc_new w _)
  have Z2 : Hid (DgT ((w.alloc (.cells #[.string (sb []), .slice none 0 0] 36)).alloc (.cells #[.int .i64 0, .int .i64 0, .int .i64 0] 39)) (w.heap.size + 1) 0 0 0) := by
    have := heap_alloc_new (w.alloc (.cells #[.string (sb []), .slice none 0 0] 36)) (.cells #[.int .i64 0, .int .i64 0, .int .i64 0] 39)
    rw [World.size_alloc] at this
    exact this
  rcases Nat.eq_zero_or_pos n with h0 | hpos
  · have HL : Hid (takeO L = ⟨[], [], 1, 1, 4, true⟩) := by
      have : L = [] := List.eq_nil_of_length_eq_zero (hnn.trans h0)
      unfold Hid; rw [this]; rfl
    subst h0
    clear hnn Z1 Z2
    go_enter Tryz.func15, Tryz.ntmps15
    go_wp2
    exact bodyPost_ret (v := .tuple #[.agg #[.string ⟨#[]⟩, .slice none 0 0], .agg #[.int .i64 1, .int .i64 1, .int .i64 4], .bool true]) (by simp [results, Tryz.results15, go_sem]) rfl (takPost_mk HL.out rfl (ptsR_nil _) rfl rfl rfl rfl (by repeat (first | with_reducible exact Below.refl _ _ | with_reducible refine Below.setCell ?_ (by first | (simp; done) | (simp; omega)) _ | with_reducible refine Below.alloc ?_ (by first | (simp; done) | (simp; omega)) _)))
  · have hn0 : (0 : Int) < (n : Int) := by omega
    have hn0' : ((n : Int) == 0) = false := by rw [beq_eq_false_iff_ne]; omega
    have HW3 : Hid (TkW w (w.heap.size + 1 + 1) [] [] (.slice none 0 0) (((w.alloc (.cells #[.string (sb []), .slice none 0 0] 36)).alloc (.cells #[.int .i64 0, .int .i64 0, .int .i64 0] 39)).alloc (.cells #[.string (sb []), .slice none 0 0] 36))) := by
      have hb : Below ((w.alloc (.cells #[.string (sb []), .slice none 0 0] 36)).alloc (.cells #[.int .i64 0, .int .i64 0, .int .i64 0] 39)).heap.size _ (((w.alloc (.cells #[.string (sb []), .slice none 0 0] 36)).alloc (.cells #[.int .i64 0, .int .i64 0, .int .i64 0] 39)).alloc (.cells #[.string (sb []), .slice none 0 0] 36)) := (Below.refl _ _).alloc (Nat.le_refl _) _
      have h3 := heap_alloc_new ((w.alloc (.cells #[.string (sb []), .slice none 0 0] 36)).alloc (.cells #[.int .i64 0, .int .i64 0, .int .i64 0] 39)) (.cells #[.string (sb []), .slice none 0 0] 36)
      simp only [World.size_alloc] at h3
      exact ⟨(hb.block _ (heap_lt2 Z1.out)).trans Z1.out, (hb.block _ (heap_lt2 Z2.out)).trans Z2.out, h3, World.ownsRow_nil _ _ _ _, by simp, by omega, Below.then_ (((Below.refl _ _).alloc (Nat.le_refl _) _).alloc (by simp) _) hb⟩
    clear hnn Z1 Z2
    obtain ⟨ba, hba⟩ : ∃ b, w.heap.size + 1 + 1 = b := ⟨_, rfl⟩
    have HBA := Lib.hid hba
    rw [hba] at HW3
    clear hba
    go_enter Tryz.func15, Tryz.ntmps15
    go_wp2_with fail
    rw [HBA.out]
    go_loopw [23] (fun iv wr => ∃ (k : Nat) (nm : List UInt8) (done : List Pt) (pv : Value), iv = .int .i64 k ∧ k ≤ n ∧ done.length ≤ k ∧ Hid (nm.length ≤ maxLen) ∧ Hid (RndR L k nm done) ∧ Hid (TkW w ba nm done pv wr)) (fun iv _ => n - (intOf iv).toNat)
    case atStart => exact ⟨0, [], [], .slice none 0 0, rfl, Nat.zero_le _, by simp, by unfold Hid maxLen; simp, .inl ⟨rfl, rfl, rfl⟩, HW3⟩
    case round =>
      obtain ⟨k, nm, done, pv, rfl, hk, hdl, hnl, hrd, T6⟩ := hrel
      by_cases hlt : k < n
      · have hkl : k < L.length := by have := HN.out; omega
        obtain ⟨g0, o0, c1', fv, hA1, hg0, k0, k1, hfs, hok⟩ := H.out.at_ hkl
        simp only [Value.slice.injEq, true_and] at hA1
        obtain ⟨rfl, rfl⟩ := hA1
        have y0 := (T6.out.be.cell (p := ⟨g0, o0 + k * 2, none⟩) hg0).trans k0
        have y1 := (T6.out.be.cell (p := ⟨g0, o0 + k * 2 + 1, none⟩) hg0).trans k1
        obtain ⟨x, hxx⟩ : ∃ x, L[k] = x := ⟨_, rfl⟩
        rw [hxx] at y0 hfs hok
        have HXX := Lib.hid hxx
        have HOK := Lib.hid hok
        obtain ⟨fv', hfv'⟩ : ∃ y, fv = y := ⟨_, rfl⟩
        obtain ⟨Af, cf, hfv, _, _⟩ := fld_le hfs
        obtain ⟨mf, hmf⟩ : ∃ y, x.2.length = y := ⟨_, rfl⟩
        rw [hmf] at hfv
        rw [hfv] at y1 hfs
        clear hfv hfv' hmf fv'
        have HFSW := Lib.hid hfs
        have T7 := Lib.hid (T6.out.alloc (.cells #[.int .i64 x.1, .slice Af mf cf] 86))
        have HFS := Lib.hid (hfs.grow' T7.out.be)
        have hki : (k : Int) < (n : Int) := by omega
        obtain ⟨num, hnum⟩ : ∃ a, x.1 = a := ⟨_, rfl⟩
        rw [hnum] at y0 T7 HFS
        have HNUM := Lib.hid hnum
        have hob : ∀ k, pv.ownBlock = some k → k < wr.heap.size := fun k hk => (T6.out.own.lt k hk).2
        have HOB := Lib.hid hob
        clear hxx hok hfs hnum k0 k1 hob
        go_wp2_with fail
        refine (rscan_at num _ x.2 _ HFS.out).mono ?_
        rintro e w5 ⟨g, rfl, hg, hsc, hb⟩
        have Q5 : Hid (RqR w ba g nm done pv (.slice Af mf cf) (scan0 x.1 x.2) w5) :=
          ⟨T7.out.then_ hb, by rw [HNUM.out]; exact hsc, Nat.zero_le _, HFSW.out, Nat.lt_of_lt_of_le (heap_lt2 T7.out.bx) hg⟩
        have HOB5 : Hid (∀ k, pv.ownBlock = some k → k < g) := fun k hk => by
          have h1 := HOB.out k hk
          simp only [World.size_alloc] at hg
          omega
        clear hg hsc hb T7 T6 HFS HOB y0 y1
        by_cases hk0 : k = 0
        · subst hk0
          obtain ⟨rfl, rfl⟩ : nm = [] ∧ done = [] := by
            rcases hrd.out with ⟨_, h1, h2⟩ | ⟨h1, _⟩
            · exact ⟨h1, h2⟩
            · omega
          have HTO : Hid (takeO L = if (hd2 x).endB then tkBad (hd2 x) else ptsGo (hdNm x) x.1 (fld x.2 0).2 [] (L.drop 1)) := by
            have := takeO_pos (L := L) (by have := HN.out; omega)
            unfold Hid; rw [this, HXX.out]
          have HWD := Lib.hid (wdr1 w5 g ⟨#[65, 73, 82, 87, 65, 89]⟩ (heap_lt2 Q5.out.hb))
          have Q5w := Lib.hid (Q5.out.alloc (.cells #[.string ⟨#[65, 73, 82, 87, 65, 89]⟩] 9))
          clear Q5
          go_wp2_with fail
          refine (rword_any (scan0 x.1 x.2) g _ airW _ Q5w.out.sc HWD.out).mono ?_
          rintro e w6 ⟨rfl, hp⟩
          have Q6 : Hid (RqR w ba g [] [] pv (.slice Af mf cf) (hd1 x) w6) := Q5w.out.call hp (tk_fsT _ _)
          have LT1 : Hid ((hd1 x).text.length ≤ 140737488351232) := LnOk.text (by rw [hd1_fs]; exact HOK.out.2)
          clear hp Q5w HWD
          go_wp2_with fail
          refine (rnameS_any 8 (hd1 x) g _ LT1.out Q6.out.sc).mono ?_
          rintro e w7 ⟨rfl, hp⟩
          have Q7 : Hid (RqR w ba g [] [] pv (.slice Af mf cf) (hd2 x) w7) := Q6.out.call hp (tk_fsT _ _)
          have HNM0 : Hid ((hd1 x).tv [] (nameSV 8) = hdNm x) := rfl
          rw [HNM0.out]
          have HNML : Hid ((hdNm x).length ≤ maxLen) := by
            unfold Hid hdNm Sc.tv nameSV
            split
            · split
              · have := LT1.out; unfold maxLen; omega
              · simp
            · simp
          have Q8 : Hid (RqR w ba g (hdNm x) [] pv (.slice Af mf cf) (hd2 x) (w7.setCell ⟨ba, 0, none⟩ (.string (sb (hdNm x))))) := Q7.out.name
          obtain ⟨b0, b1, b2⟩ := Q7.out.tk.bx.cells
          obtain ⟨b3, b4⟩ := Q7.out.tk.bx.frees
          clear hp Q6 HNM0 Q7
          go_wp2_with fail
          refine (rendS_any (hd2 x) g _ Q8.out.sc).mono ?_
          rintro e w8 ⟨rfl, hb⟩
          have T9 := Lib.hid (Q8.out.tk.then_ hb)
          obtain ⟨S, hS⟩ : ∃ S, hd2 x = S := ⟨_, rfl⟩
          rw [hS] at HTO ⊢
          have HS := Lib.hid hS
          obtain ⟨el, hel⟩ : ∃ x, S.endL = x := ⟨_, rfl⟩
          obtain ⟨ec, hec⟩ : ∃ x, S.endC = x := ⟨_, rfl⟩
          obtain ⟨ee, hee⟩ : ∃ x, S.endE = x := ⟨_, rfl⟩
          have HBD : Hid (S.endB = true → takeO L = ⟨[], [], el, ec, ee, true⟩) := by
            intro hb; rw [HTO.out, if_pos hb]; unfold tkBad; rw [hel, hec, hee]
          rw [hel, hec, hee]
          clear hS hel hec hee hb Q8 b0 b1 b2 b3 b4
          obtain ⟨r0, r1, r2⟩ := T9.out.r1.cells
          obtain ⟨q0, q1⟩ := T9.out.r1.frees
          obtain ⟨d0, d1, d2, d3⟩ := T9.out.r2.cells
          obtain ⟨e0, e1, e2⟩ := T9.out.r2.frees
          have HBE := Lib.hid T9.out.be
          cases hend : S.endB
          · have HGO : Hid (takeO L = ptsGo (hdNm x) x.1 (fld x.2 0).2 [] (L.drop 1)) := by unfold Hid; rw [HTO.out, hend]; rfl
            have HLF : Hid (0 < x.2.length) := hd_fields (by rw [HS.out]; exact hend)
            have T10 := Lib.hid (T9.out.alloc (.cells #[.int .i64 el, .int .i64 ec, .int .i64 ee] 39))
            have HRD : Hid (RndR L 1 (hdNm x) []) := by
              refine .inr ⟨Nat.le_refl _, by have := HN.out; omega, ?_⟩
              rw [HXX.out]; exact ⟨HGO.out, HLF.out⟩
            clear hend HBD HTO T9
            go_wp2
            go_roundw
            case rel => exact ⟨1, hdNm x, [], pv, by go_num, by omega, by simp, HNML, HRD, T10⟩
            case measure => simp [intOf]; omega
          · have HL := Lib.hid (HBD.out hend)
            clear hend HBD HTO T9
            go_wp2
            go_region
            go_wp2
            exact bodyPost_ret (v := .tuple #[.agg #[.string ⟨#[]⟩, .slice none 0 0], .agg #[.int .i64 el, .int .i64 ec, .int .i64 ee], .bool true]) (by simp [results, Tryz.results15, go_sem, r0, r1, r2, d0, d1, d2, d3]) rfl (takPost_mk HL.out rfl (ptsR_nil _) rfl rfl rfl rfl (by repeat (first | with_reducible exact HBE.out | with_reducible refine Below.setCell ?_ (by first | (simp; done) | (simp; omega)) _ | with_reducible refine Below.drew ?_ | with_reducible refine below_drewN' ?_ _ | with_reducible refine Below.alloc ?_ (by first | (simp; done) | (have := HBE.out.size; simp; omega) | exact HBE.out.size) _)))
        · obtain ⟨hk1, hL0, hgo, hlf⟩ : 1 ≤ k ∧ ∃ h : 0 < L.length, takeO L = ptsGo nm (L[0]'h).1 (fld (L[0]'h).2 0).2 done (L.drop k) ∧ 0 < (L[0]'h).2.length := by
            rcases hrd.out with ⟨h1, _⟩ | ⟨h1, h2⟩
            · exact absurd h1 hk0
            · exact ⟨h1, h2⟩
          obtain ⟨l0, hl0⟩ : ∃ y, (L[0]'hL0).1 = y := ⟨_, rfl⟩
          obtain ⟨c0, hc0⟩ : ∃ y, (fld (L[0]'hL0).2 0).2 = y := ⟨_, rfl⟩
          rw [hl0, hc0] at hgo
          have hst := ptsGo_step nm l0 c0 done hkl
          rw [HXX.out, HN.out] at hst
          obtain ⟨lb, hlb⟩ : ∃ b, decide (n ≤ k + 1) = b := ⟨_, rfl⟩
          rw [hlb] at hst
          have HLB := Lib.hid hlb
          have HST := Lib.hid (hgo.trans hst)
          have HNX : Hid (takeO L = ptsGo nm l0 c0 (done ++ [viaP x lb]) (L.drop (k + 1)) → RndR L (k + 1) nm (done ++ [viaP x lb])) := by
            intro h; exact .inr ⟨by omega, hL0, by rw [hl0, hc0]; exact h, hlf⟩
          have e0 : ((k : Int) == 0) = false := by rw [beq_eq_false_iff_ne]; omega
          have HWD := Lib.hid (wdr1 w5 g ⟨#[86, 73, 65]⟩ (heap_lt2 Q5.out.hb))
          have Q5w := Lib.hid (Q5.out.alloc (.cells #[.string ⟨#[86, 73, 65]⟩] 9))
          clear Q5 hst hgo hlb hl0 hc0 hlf hrd
          go_wp2_with fail
          refine (rword_any (scan0 x.1 x.2) g _ viaW _ Q5w.out.sc HWD.out).mono ?_
          rintro e w6 ⟨rfl, hp⟩
          have Q6 : Hid (RqR w ba g nm done pv (.slice Af mf cf) (via1 x) w6) := Q5w.out.call hp (tk_fsT _ _)
          clear hp Q5w HWD
          go_wp2_with fail
          refine (rfield_any (via1 x) g _ Q6.out.sc).mono ?_
          rintro e w7 ⟨rfl, hp⟩
          have Q7 : Hid (RqR w ba g nm done pv (.slice Af mf cf) (via2 x) w7) := Q6.out.call hp (Sc.take_fs _)
          have LT : Hid ((via1 x).text.length ≤ 140737488351232) := LnOk.text (by rw [via1_fs]; exact HOK.out.2)
          obtain ⟨tx, htx⟩ : ∃ t, (via1 x).text = t := ⟨_, rfl⟩
          rw [htx] at LT ⊢
          have HTX := Lib.hid htx
          clear hp htx Q6
          go_wp2_with fail
          refine (rfree_any _).mono ?_
          rintro e w8 ⟨rfl, rfl⟩
          have Q8 := Lib.hid (Q7.out.alloc (.cells #[.int .i64 (-200000), .int .i64 6000000] 72))
          obtain ⟨wf, hwf⟩ : ∃ wf, w7.alloc (.cells #[.int .i64 (-200000), .int .i64 6000000] 72) = wf := ⟨_, rfl⟩
          rw [hwf] at Q8 ⊢
          clear hwf Q7
          obtain ⟨bp, hbp⟩ : ∃ b, wf.heap.size = b := ⟨_, rfl⟩
          have P8 : Hid (RpR w ba g bp nm done pv (.slice Af mf cf) (via2 x) ⟨tx, -200000, 6000000, 0⟩ (wf.alloc (.cells #[.string (sb tx), .int .i64 (-200000), .int .i64 6000000, .int .u8 0] 74))) :=
            ⟨Q8.out.alloc _, by rw [← hbp]; exact heap_alloc_new wf _, by rw [← hbp]; exact heap_lt2 Q8.out.hb, HOB5.out⟩
          have HBP := Lib.hid hbp
          clear hbp Q8
          go_wp2_with fail
          rw [HBP.out]
          refine (rsplitRef_any (sb tx) _ (by have := LT.out; unfold maxLen; show tx.length ≤ _; omega)).mono ?_
          rintro e w9 ⟨a, b, rfl, _, _, _, _, hd⟩
          rw [bl_sb]
          have P9 := Lib.hid (P8.out.then_ hd.below)
          clear hd P8
          obtain ⟨er, her⟩ : ∃ x, refErr tx = x := ⟨_, rfl⟩
          rw [her]
          have HER := Lib.hid her
          clear her
          go_upto_if 53 with (fail)
          go_cut [55] (fun _ wx => Hid (RpR w ba g bp nm done pv (.slice Af mf cf) (via3 x) ⟨tx, -200000, 6000000, 0⟩ wx))
          case first =>
            by_cases h0 : er = 0
            · have e1 : (er != 0) = false := bne_eq_false_iff_eq.2 h0
              have HS : Hid (via3 x = via2 x) := by unfold Hid via3; rw [HTX.out, HER.out, if_pos h0]
              clear h0
              go_wp2
              go_meet
              unfold Hid; rw [HS.out]; exact P9.out
            · have e1 : (er != 0) = true := bne_iff_ne.2 h0
              have HS : Hid (via3 x = (via2 x).note (via2 x).la 5) := by unfold Hid via3; rw [HTX.out, HER.out, if_neg h0]
              clear h0
              go_wp2_with fail
              refine (rfailS_any (via2 x) 5 g _ P9.out.q.sc).mono ?_
              rintro e w10 ⟨rfl, hp⟩
              have P10 := Lib.hid (P9.out.call hp (Sc.note_fs _ _ _))
              clear hp
              go_wp2
              go_meet
              unfold Hid; rw [HS.out]; exact P10.out
          case rest =>
            have P11 := hcut
            have LT3 : Hid ((via3 x).text.length ≤ 140737488351232) := LnOk.text (by rw [via3_fs]; exact HOK.out.2)
            go_upto_if 60 with (fail)
            go_cut [61] (fun _ wx => Hid (RpR w ba g bp nm done pv (.slice Af mf cf) (viaS x lb) (viaPR x lb) wx))
            case first =>
              cases lb
              · have hlb1 : (k : Int) < (n : Int) - 1 := by
                  have := HLB.out
                  rw [decide_eq_false_iff_not] at this
                  omega
                go_wp2_with fail
                refine (rwinS_any (via3 x) g _ LT3.out P11.out.q.sc).mono ?_
                rintro e w12 ⟨rfl, hp⟩
                have P12 : Hid (RpR w ba g bp nm done pv (.slice Af mf cf) (via4 x) ⟨tx, -200000, 6000000, 0⟩ w12) := P11.out.call hp (tk_fsT _ _)
                obtain ⟨lo, hlo⟩ : ∃ y, (via3 x).tv 0 winSLo = y := ⟨_, rfl⟩
                obtain ⟨hi, hhi⟩ : ∃ y, (via3 x).tv 0 winSHi = y := ⟨_, rfl⟩
                rw [hlo, hhi]
                have P13 : Hid (RpR w ba g bp nm done pv (.slice Af mf cf) (via4 x) ⟨tx, lo, hi, 0⟩ ((w12.setCell ⟨bp, 1, none⟩ (.int .i64 lo)).setCell ⟨bp, 2, none⟩ (.int .i64 hi))) :=
                  (P12.out.set (p' := ⟨tx, lo, 6000000, 0⟩) rfl).set rfl
                have HLO := Lib.hid hlo
                have HHI := Lib.hid hhi
                have HWD := Lib.hid (wdr3 _ g (heap_lt2 P13.out.q.hb))
                have hsz : ((w12.setCell ⟨bp, 1, none⟩ (.int .i64 lo)).setCell ⟨bp, 2, none⟩ (.int .i64 hi)).heap.size = w12.heap.size := by simp
                rw [hsz] at HWD
                have P14 := Lib.hid (P13.out.alloc (.cells #[.string ⟨#[66, 79, 84, 72]⟩, .string ⟨#[70, 79, 82, 87, 65, 82, 68]⟩, .string ⟨#[66, 65, 67, 75, 87, 65, 82, 68]⟩] 9))
                obtain ⟨c0', c1', c2', c3', c4'⟩ := P12.out.bx.cells
                obtain ⟨f0, f1, f2, f3⟩ := P12.out.bx.frees
                clear hp hlo hhi P12 P13 hsz
                go_wp2_with fail
                refine (rword_any (via4 x) g _ dirW _ P14.out.q.sc HWD.out).mono ?_
                rintro e w15 ⟨rfl, hp⟩
                have P15 : Hid (RpR w ba g bp nm done pv (.slice Af mf cf) (via5 x) ⟨tx, lo, hi, 0⟩ w15) := P14.out.call hp (tk_fsT _ _)
                obtain ⟨hd1, hd2, hd3⟩ := dirR_nat x
                have HVD : Hid ((via4 x).tv (-1) (fun t => wordAt dirW t 0) = viaDir x) := rfl
                rw [HVD.out]
                obtain ⟨d, hd⟩ : ∃ d, viaDir x = d := ⟨_, rfl⟩
                rw [hd] at hd1 hd2 hd3 ⊢
                have HD := Lib.hid hd
                clear c0' c1' c2' c3' c4' f0 f1 f2 f3 hd hp P14 HWD
                obtain ⟨c0', c1', c2', c3', c4'⟩ := P15.out.bx.cells
                obtain ⟨f0, f1, f2, f3⟩ := P15.out.bx.frees
                obtain ⟨mx, hmx⟩ : ∃ y, max d 0 = y := ⟨_, rfl⟩
                rw [hmx] at hd1 hd2 hd3
                have HMX := Lib.hid hmx
                have P16 : Hid (RpR w ba g bp nm done pv (.slice Af mf cf) (via5 x) ⟨tx, lo, hi, mx.toNat⟩ (w15.setCell ⟨bp, 3, none⟩ (.int .u8 mx))) := P15.out.set (by rw [hd1]; rfl)
                have HPT : Hid (viaPR x false = ⟨tx, lo, hi, mx.toNat⟩) := by unfold Hid viaPR; rw [if_neg (by decide), HTX.out, HLO.out, HHI.out, HD.out, HMX.out]
                have hwr : IntKind.u8.wrap mx = mx := IntWalk.u8_in _ (by omega)
                clear P15 hd1
                go_wp2
                go_meet
                unfold Hid; rw [HPT.out]; exact P16.out
              · have hlb1 : (n : Int) - 1 ≤ (k : Int) := by
                  have := HLB.out
                  rw [decide_eq_true_iff] at this
                  omega
                have HPT : Hid (viaPR x true = ⟨tx, -200000, 6000000, 0⟩) := by unfold Hid viaPR; rw [if_pos rfl, HTX.out]
                go_wp2
                go_meet
                unfold Hid; rw [HPT.out]; exact P11.out
            case rest =>
              have P17 := hcut
              obtain ⟨P, hP⟩ : ∃ P, viaPR x lb = P := ⟨_, rfl⟩
              rw [hP] at P17
              have HP := Lib.hid hP
              have HPO : Hid (P.ref.length ≤ maxLen ∧ P.dir < 256) := by
                have h1 := LT.out
                have h2 := dirR_nat x
                rw [← hP]
                unfold Hid viaPR
                split
                · exact ⟨by unfold maxLen; show (via1 x).text.length ≤ _; rw [HTX.out]; omega, by show 0 < 256; decide⟩
                · refine ⟨by unfold maxLen; show (via1 x).text.length ≤ _; rw [HTX.out]; omega, ?_⟩
                  show (max (viaDir x) 0).toNat < 256
                  omega
              obtain ⟨ip, hip, hz0, hz1, hz2⟩ := info_parts infoPt
              obtain ⟨p0, p1, p2, p3, p4⟩ := P17.out.bx.cells
              obtain ⟨b0, b1, b2⟩ := P17.out.q.tk.bx.cells
              obtain ⟨b3, b4⟩ := P17.out.q.tk.bx.frees
              have HNEWS : Hid (∀ j u, [.string (sb P.ref), .int .i64 P.lo, .int .i64 P.hi, .int .u8 (P.dir : Int)][j]? = some u → (wc.alloc (.cells #[.string (sb P.ref), .int .i64 P.lo, .int .i64 P.hi, .int .u8 (P.dir : Int)] 74)).cell? ((⟨wc.heap.size, 0, none⟩ : Addr).add j) = some u) :=
                World.news_of_block (cs := #[.string (sb P.ref), .int .i64 P.lo, .int .i64 P.hi, .int .u8 (P.dir : Int)]) (t := 74) (fr := (0, 0)) (heap_alloc_new wc _)
              have P18 := Lib.hid (P17.out.alloc (.cells #[.string (sb P.ref), .int .i64 P.lo, .int .i64 P.hi, .int .u8 (P.dir : Int)] 74))
              clear hP P17 hcut
              go_wp2_with (at_builtin; refine wpList_append_own_wide _ rfl (.tmp 71) (.tmp 73) 34 rfl (ba + 1) 74 ip (.agg #[.string ⟨#[]⟩, .int .i64 0, .int .i64 0, .int .u8 0]) 4 40 Tryz.underlying34 hip hz0 hz1 hz2 rfl (by decide) pv done.length (ptcells done) rfl P18.out.q.tk.own ⟨wc.heap.size, 0, none⟩ 1 1 [.string (sb P.ref), .int .i64 P.lo, .int .i64 P.hi, .int .u8 (P.dir : Int)] rfl rfl HNEWS.out (by simp [Value.oneCell']) (by unfold maxLen; omega) (by omega) (by simp; omega) ?_)
              intro v' w' hown' hgrow _
              obtain ⟨Av, cv, hvf, _, _⟩ := (Rd.of_own hown').form
              subst hvf
              have Q19 := Lib.hid (P18.out.snoc hown' hgrow HPO.out)
              have hb' : w'.cell? ⟨ba, 1, none⟩ = some pv := World.cell?_of_block (a := ⟨ba, 1, none⟩) (hgrow.block ba (by simp; omega) (by intro e; have := (P18.out.q.tk.own.lt ba e.symm).1; omega)) |>.trans P18.out.q.tk.bx.cells.2.1
              have hf' : w'.frozen? ⟨ba, 1, none⟩ = false := World.frozen?_of_block (a := ⟨ba, 1, none⟩) (hgrow.block ba (by simp; omega) (by intro e; have := (P18.out.q.tk.own.lt ba e.symm).1; omega)) |>.trans P18.out.q.tk.bx.frees.2
              clear hown' hgrow P18 HNEWS b0 b1 b2 b3 b4 p0 p1 p2 p3 p4
              go_wp2_with fail
              refine (rendS_any (viaS x lb) g _ Q19.out.sc).mono ?_
              rintro e w20 ⟨rfl, hb⟩
              have T20 := Lib.hid (Q19.out.tk.then_ hb)
              obtain ⟨S1, hS1⟩ : ∃ S, viaS x lb = S := ⟨_, rfl⟩
              have HEQ : Hid (S1.endB = false → viaP x lb = P) := by
                intro hb; rw [← HP.out]; exact (viaPR_eq (by rw [hS1]; exact hb)).symm
              rw [hS1] at HST ⊢
              obtain ⟨fl, hfl⟩ : ∃ x, S1.endL = x := ⟨_, rfl⟩
              obtain ⟨fc, hfc⟩ : ∃ x, S1.endC = x := ⟨_, rfl⟩
              obtain ⟨fe, hfe⟩ : ∃ x, S1.endE = x := ⟨_, rfl⟩
              have HBD1 : Hid (S1.endB = true → takeO L = ⟨[], [], fl, fc, fe, true⟩) := by
                intro hb; rw [HST.out, if_pos hb]; unfold tkBad; rw [hfl, hfc, hfe]
              have HGD1 : Hid (S1.endB = false → RndR L (k + 1) nm (done ++ [P])) := by
                intro hb
                rw [← HEQ.out hb]
                exact HNX.out (by rw [HST.out, if_neg (by rw [hb]; decide)])
              rw [hfl, hfc, hfe]
              clear hS1 hfl hfc hfe hb Q19 HST HNX HEQ hb' hf'
              obtain ⟨r0, r1, r2⟩ := T20.out.r1.cells
              obtain ⟨q0, q1⟩ := T20.out.r1.frees
              obtain ⟨d0, d1, d2, d3⟩ := T20.out.r2.cells
              obtain ⟨e0', e1', e2'⟩ := T20.out.r2.frees
              have HBE := Lib.hid T20.out.be
              cases hend1 : S1.endB
              · have HG := Lib.hid (HGD1.out hend1)
                have T21 := Lib.hid (T20.out.alloc (.cells #[.int .i64 fl, .int .i64 fc, .int .i64 fe] 39))
                clear hend1 HBD1 HGD1 T20
                go_wp2
                go_roundw
                case rel => exact ⟨k + 1, nm, done ++ [P], _, by go_num, hlt, by rw [List.length_append, List.length_singleton]; omega, hnl, HG, T21⟩
                case measure => simp [intOf]; omega
              · have HL := Lib.hid (HBD1.out hend1)
                clear hend1 HBD1 HGD1 T20
                go_wp2
                go_region
                go_wp2
                exact bodyPost_ret (v := .tuple #[.agg #[.string ⟨#[]⟩, .slice none 0 0], .agg #[.int .i64 fl, .int .i64 fc, .int .i64 fe], .bool true]) (by simp [results, Tryz.results15, go_sem, r0, r1, r2, d0, d1, d2, d3]) rfl (takPost_mk HL.out rfl (ptsR_nil _) rfl rfl rfl rfl (by repeat (first | with_reducible exact HBE.out | with_reducible refine Below.setCell ?_ (by first | (simp; done) | (simp; omega)) _ | with_reducible refine Below.drew ?_ | with_reducible refine below_drewN' ?_ _ | with_reducible refine Below.alloc ?_ (by first | (simp; done) | (have := HBE.out.size; simp; omega) | exact HBE.out.size) _)))
      · have hki : (n : Int) ≤ (k : Int) := by omega
        obtain ⟨hk1, hL0, hgo, hlf⟩ : 1 ≤ k ∧ ∃ h : 0 < L.length, takeO L = ptsGo nm (L[0]'h).1 (fld (L[0]'h).2 0).2 done (L.drop k) ∧ 0 < (L[0]'h).2.length := by
          rcases hrd.out with ⟨h1, _⟩ | ⟨h1, h2⟩
          · omega
          · exact ⟨h1, h2⟩
        obtain ⟨g0, o0, c1', fv, hA1, hg0, k0, k1, hfs, hok⟩ := H.out.at_ hL0
        rw [HN.out] at hA1
        simp only [Value.slice.injEq, true_and] at hA1
        obtain ⟨rfl, rfl⟩ := hA1
        simp only [Nat.zero_mul, Nat.add_zero] at k0 k1
        obtain ⟨x0, hx0⟩ : ∃ y, L[0]'hL0 = y := ⟨_, rfl⟩
        rw [hx0] at k0 hfs hgo hlf
        have HEND : Hid (takeO L = if chkA nm done = 0 then ⟨nm, done, 0, 0, 0, false⟩ else ⟨[], [], x0.1, (fld x0.2 0).2, chkA nm done, true⟩) := by
          unfold Hid; rw [hgo, ptsGo_end nm _ _ done (by have := HN.out; omega)]
        obtain ⟨bb, oo, cc, hfv, hbb, hc0, hc1, _⟩ := hfs.at_ hlf
        subst hfv
        obtain ⟨Ap, cp, hpv, _, _⟩ := T6.out.pts.form
        subst hpv
        obtain ⟨b0, b1, b2⟩ := T6.out.bx.cells
        have HLF := Lib.hid hlf
        obtain ⟨n0, hnum0⟩ : ∃ a, x0.1 = a := ⟨_, rfl⟩
        rw [hnum0] at k0 HEND
        clear hgo hc0 hrd hfs hok hx0 hlf hnum0
        go_wp2_with fail
        refine (rcheck_any (sb nm) _ done _ T6.out.pts hnl.out).mono ?_
        rintro e w5 ⟨rfl, hb⟩
        rw [bl_sb]
        have T7 := Lib.hid (T6.out.then_ hb)
        obtain ⟨er, her⟩ : ∃ x, chkA nm done = x := ⟨_, rfl⟩
        rw [her] at HEND ⊢
        clear hb T6 her b0 b1 b2
        obtain ⟨r0, r1, r2⟩ := T7.out.r1.cells
        obtain ⟨q0, q1⟩ := T7.out.r1.frees
        obtain ⟨d0, d1, d2, d3⟩ := T7.out.r2.cells
        obtain ⟨e0, e1, e2⟩ := T7.out.r2.frees
        obtain ⟨b0, b1, b2⟩ := T7.out.bx.cells
        have HBE := Lib.hid T7.out.be
        have hlo := T7.out.lo
        have hba1 : w.heap.size < ba := by omega
        have hba2 : w.heap.size + 1 < ba := by omega
        by_cases h0 : er = 0
        · have ee1 : (er != 0) = false := bne_eq_false_iff_eq.2 h0
          have HL : Hid (takeO L = ⟨nm, done, 0, 0, 0, false⟩) := by unfold Hid; rw [HEND.out, if_pos h0]
          clear h0 HEND hlo
          go_wp2
          exact bodyPost_ret (v := .tuple #[.agg #[.string (sb nm), .slice Ap done.length cp], .agg #[.int .i64 0, .int .i64 0, .int .i64 0], .bool false]) (by simp [results, Tryz.results15, go_sem, r0, r1, r2, d0, d1, d2, d3]) rfl (takPost_mk HL.out rfl (T7.out.fin _ _ _ _ _) rfl rfl rfl rfl (by repeat (first | with_reducible exact HBE.out | with_reducible refine Below.setCell ?_ (by first | (simp; done) | (simp; omega)) _)))
        · have ee1 : (er != 0) = true := bne_iff_ne.2 h0
          have HL : Hid (takeO L = ⟨[], [], n0, (fld x0.2 0).2, er, true⟩) := by unfold Hid; rw [HEND.out, if_neg h0]
          have y0 := (HBE.out.cell (p := ⟨g0, o0, none⟩) hg0).trans k0
          have y1 := (HBE.out.cell (p := ⟨g0, o0 + 1, none⟩) hg0).trans k1
          have y2 := (HBE.out.cell (p := ⟨bb, oo + 0 * 2 + 1, none⟩) hbb).trans hc1
          simp only [Nat.zero_mul, Nat.add_zero] at y2
          have hfl0 : 0 < x0.2.length := HLF.out
          have hfi : (0 : Int) < (x0.2.length : Int) := by omega
          clear h0 HEND hlo hc1
          go_wp2
          go_region
          go_wp2
          exact bodyPost_ret (v := .tuple #[.agg #[.string ⟨#[]⟩, .slice none 0 0], .agg #[.int .i64 n0, .int .i64 (fld x0.2 0).2, .int .i64 er], .bool true]) (by simp [results, Tryz.results15, go_sem, r0, r1, r2, d0, d1, d2, d3]) rfl (takPost_mk HL.out rfl (ptsR_nil _) rfl rfl rfl rfl (by repeat (first | with_reducible exact HBE.out | with_reducible refine Below.setCell ?_ (by first | (simp; done) | (simp; omega)) _ | with_reducible refine Below.drew ?_ | with_reducible refine below_drewN' ?_ _ | with_reducible refine Below.alloc ?_ (by first | (simp; done) | (have := HBE.out.size; simp; omega) | exact HBE.out.size) _)))
end Go.Proofs.YtinkdlmikhcpjaaGreatDoor
