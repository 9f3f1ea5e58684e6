/-
  Contract: the point of a record, by the program.
-/
import Derived.Test.YtgmehlgfilpleaaGreatDoorMG15
import Derived.IntWalk
namespace Go.Proofs.YtgmehlgfilpleaaGreatDoor
open Go.RowKit
set_option linter.unusedVariables false
set_option linter.unusedSimpArgs false

set_option maxHeartbeats 1000000 in
/-- the words of the directions: three texts in a new row -/
theorem words3_any (w : World) : Calls Tryz.prog 176 #[] w fun e w' => e = .returned (.slice (some ⟨w.heap.size, 0, none⟩) 3 3) ∧ w' = w.alloc (.cells #[.string ⟨#[66, 79, 84, 72]⟩, .string ⟨#[70, 79, 82, 87, 65, 82, 68]⟩, .string ⟨#[66, 65, 67, 75, 87, 65, 82, 68]⟩] 9) := by
  go_enter Tryz.func176, Tryz.ntmps176
  go_wp2
  go_ret
  exact ⟨rfl, rfl⟩
/-- a point in a box -/
def PtBk (w : World) (b : Nat) (p : Pt) : Prop := w.heap[b]? = some (.cells #[.string (sb p.ref), .int .i64 p.lo, .int .i64 p.hi, .int .u8 (p.dir : Int)] 53 (0, 0))
def DgT (w : World) (b : Nat) (x y z : Int) : Prop := w.heap[b]? = some (.cells #[.int .i64 x, .int .i64 y, .int .i64 z] 89 (0, 0))
theorem heap_lt2 {w : World} {b : Nat} {o : Obj} (h : w.heap[b]? = some o) : b < w.heap.size := (Array.getElem?_eq_some_iff.1 h).1
theorem PtBk.cells {w : World} {b : Nat} {p : Pt} (h : PtBk w b p) : w.cell? ⟨b, 0, none⟩ = some (.string (sb p.ref)) ∧ w.cell? ⟨b, 1, none⟩ = some (.int .i64 p.lo) ∧ w.cell? ⟨b, 2, none⟩ = some (.int .i64 p.hi) ∧ w.cell? ⟨b, 3, none⟩ = some (.int .u8 (p.dir : Int)) ∧ b < w.heap.size :=
  ⟨blkCell h 0 rfl, blkCell h 1 rfl, blkCell h 2 rfl, blkCell h 3 rfl, heap_lt2 h⟩
theorem PtBk.frees {w : World} {b : Nat} {p : Pt} (h : PtBk w b p) : w.frozen? ⟨b, 0, none⟩ = false ∧ w.frozen? ⟨b, 1, none⟩ = false ∧ w.frozen? ⟨b, 2, none⟩ = false ∧ w.frozen? ⟨b, 3, none⟩ = false :=
  ⟨blkFree h 0, blkFree h 1, blkFree h 2, blkFree h 3⟩
theorem DgT.cells {w : World} {b : Nat} {x y z : Int} (h : DgT w b x y z) : w.cell? ⟨b, 0, none⟩ = some (.int .i64 x) ∧ w.cell? ⟨b, 1, none⟩ = some (.int .i64 y) ∧ w.cell? ⟨b, 2, none⟩ = some (.int .i64 z) ∧ b < w.heap.size :=
  ⟨blkCell h 0 rfl, blkCell h 1 rfl, blkCell h 2 rfl, heap_lt2 h⟩
theorem DgT.frees {w : World} {b : Nat} {x y z : Int} (h : DgT w b x y z) : w.frozen? ⟨b, 0, none⟩ = false ∧ w.frozen? ⟨b, 1, none⟩ = false ∧ w.frozen? ⟨b, 2, none⟩ = false :=
  ⟨blkFree h 0, blkFree h 1, blkFree h 2⟩
def pt0 : Pt := ⟨[], 0, 0, 0⟩
/-- a scanner and the point that it fills; the result's boxes -/
structure PkR (P : World → Nat → Sc → Prop) (w0 : World) (g bp : Nat) (s : Sc) (p : Pt) (w : World) : Prop where
  sc : P w g s
  bx : PtBk w bp p
  r1 : PtBk w (w0.heap.size + 1) pt0
  r2 : DgT w (w0.heap.size + 2) 0 0 0
  gb : g < bp
  lo : w0.heap.size + 3 ≤ g
  be : Below w0.heap.size w0 w
theorem PkR.call {P : World → Nat → Sc → Prop} {w0 w w' : World} {g bp : Nat} {s s' : Sc} {p : Pt} (h : PkR P w0 g bp s p w) (hs : P w' g s') (ho : Off g w w') : PkR P w0 g bp s' p w' := by
  have l1 := heap_lt2 h.bx
  have l2 := heap_lt2 h.r1
  have l3 := heap_lt2 h.r2
  have gb := h.gb
  have lo := h.lo
  exact ⟨hs, (ho.block bp l1 (by intro e; injection e with e; omega)).trans h.bx, (ho.block _ l2 (by intro e; injection e with e; omega)).trans h.r1, (ho.block _ l3 (by intro e; injection e with e; omega)).trans h.r2, gb, lo, ho.below h.be (by omega) (by omega)⟩
theorem PkR.pthen {w0 w w' : World} {g bp : Nat} {s : Sc} {p : Pt} (h : PkR ScP w0 g bp s p w) (hb : Below w.heap.size w w') : PkR ScP w0 g bp s p w' := h.call (h.sc.below hb) (Off.of_below hb)
theorem PkR.palloc {w0 w : World} {g bp : Nat} {s : Sc} {p : Pt} (h : PkR ScP w0 g bp s p w) (o : Obj) : PkR ScP w0 g bp s p (w.alloc o) := h.pthen ((Below.refl _ _).alloc (Nat.le_refl _) o)
theorem PkR.pset {w0 w : World} {g bp : Nat} {s : Sc} {p p' : Pt} (h : PkR ScP w0 g bp s p w) {j : Nat} {u : Value}
    (hx : (#[.string (sb p.ref), .int .i64 p.lo, .int .i64 p.hi, .int .u8 (p.dir : Int)] : Array Value).setIfInBounds j u = #[.string (sb p'.ref), .int .i64 p'.lo, .int .i64 p'.hi, .int .u8 (p'.dir : Int)]) : PkR ScP w0 g bp s p' (w.setCell ⟨bp, j, none⟩ u) := by
  have gb := h.gb
  have lo := h.lo
  have ho : ∀ k, k ≠ bp → (w.setCell ⟨bp, j, none⟩ u).heap[k]? = w.heap[k]? := fun k hk => heap_setCell_other w ⟨bp, j, none⟩ k u (fun e => hk (by simpa using e))
  refine ⟨h.sc.keep fun k hk => ho k (by omega), ?_, (ho _ (by omega)).trans h.r1, (ho _ (by omega)).trans h.r2, gb, lo, h.be.setCell (by simp; omega) _⟩
  unfold PtBk
  rw [heap_setCell_same w bp j _ _ _ h.bx, hx]
theorem alloc3a (w : World) (o1 o2 o3 : Obj) : (((w.alloc o1).alloc o2).alloc o3).heap[w.heap.size + 1]? = some o2 ∧ (((w.alloc o1).alloc o2).alloc o3).heap[w.heap.size + 2]? = some o3 := by
  have h2 := heap_alloc_new (w.alloc o1) o2
  have h3 := heap_alloc_new ((w.alloc o1).alloc o2) o3
  simp only [World.size_alloc] at h2 h3
  exact ⟨(((Below.refl _ _).alloc (Nat.le_refl _) o3).block (w.heap.size + 1) (by simp)).trans h2, h3⟩
theorem wdr1 (w : World) (g : Nat) (t : ByteArray) (hg : g < w.heap.size) : WdR (w.alloc (.cells #[.string t] 9)) g (.slice (some ⟨w.heap.size, 0, none⟩) 1 1) [bl t] := by
  refine ⟨_, _, rfl, Nat.le_refl _, by unfold maxLen; decide, fun _ => ⟨w.heap.size, 0, rfl, by simp, by omega, fun k hk => ?_⟩⟩
  match k, hk with
  | 0, _ => simp [go_sem, sb_bl]
theorem wdr3 (w : World) (g : Nat) (hg : g < w.heap.size) : WdR (w.alloc (.cells #[.string ⟨#[66, 79, 84, 72]⟩, .string ⟨#[70, 79, 82, 87, 65, 82, 68]⟩, .string ⟨#[66, 65, 67, 75, 87, 65, 82, 68]⟩] 9)) g (.slice (some ⟨w.heap.size, 0, none⟩) 3 3) dirW := by
  refine ⟨_, _, rfl, Nat.le_refl _, by unfold maxLen; decide, fun _ => ⟨w.heap.size, 0, rfl, by simp, by omega, fun k hk => ?_⟩⟩
  match k, hk with
  | 0, _ => simp [go_sem]; rfl
  | 1, _ => simp [go_sem]; rfl
  | 2, _ => simp [go_sem]; rfl
theorem dirAt_ways (t : List UInt8) : wordAt dirW t 0 = -1 ∨ wordAt dirW t 0 = 0 ∨ wordAt dirW t 0 = 1 ∨ wordAt dirW t 0 = 2 := by
  have e : wordAt dirW t 0 = if [66, 79, 84, 72] = t then 0 else if [70, 79, 82, 87, 65, 82, 68] = t then 1 else if [66, 65, 67, 75, 87, 65, 82, 68] = t then 2 else -1 := rfl
  rw [e]
  by_cases h1 : [66, 79, 84, 72] = t
  · rw [if_pos h1]; exact .inr (.inl rfl)
  · rw [if_neg h1]
    by_cases h2 : [70, 79, 82, 87, 65, 82, 68] = t
    · rw [if_pos h2]; exact .inr (.inr (.inl rfl))
    · rw [if_neg h2]
      by_cases h3 : [66, 65, 67, 75, 87, 65, 82, 68] = t
      · rw [if_pos h3]; exact .inr (.inr (.inr rfl))
      · rw [if_neg h3]; exact .inl rfl
theorem dir_ways (x : Ln) : viaDir x = -1 ∨ viaDir x = 0 ∨ viaDir x = 1 ∨ viaDir x = 2 := by
  unfold viaDir Sc.tv
  split
  · exact dirAt_ways _
  · exact .inl rfl
theorem dir_nat (x : Ln) : (((viaDir x % 256).toNat : Nat) : Int) = viaDir x % 256 ∧ 0 ≤ viaDir x % 256 ∧ viaDir x % 256 < 256 ∧ -1 ≤ viaDir x ∧ viaDir x ≤ 2 := by
  rcases dir_ways x with h | h | h | h <;> rw [h] <;> decide
def PtPost (x : Ln) (last : Bool) (w : World) (e : Ending) (w' : World) : Prop :=
  e = .returned (.tuple #[.agg #[.string (sb (viaP x last).ref), .int .i64 (viaP x last).lo, .int .i64 (viaP x last).hi, .int .u8 ((viaP x last).dir : Int)], .agg #[.int .i64 (viaS x last).endL, .int .i64 (viaS x last).endC, .int .i64 (viaS x last).endE], .bool (viaS x last).endB]) ∧ Below w.heap.size w w'
theorem ptPost_mk {x : Ln} {last : Bool} {w w' : World} {r : List UInt8} {lo hi : Int} {d : Int} {a b c : Int} {f : Bool} (h1 : (viaP x last).ref = r) (h2 : (viaP x last).lo = lo) (h3 : (viaP x last).hi = hi) (h4 : ((viaP x last).dir : Int) = d)
    (h5 : (viaS x last).endL = a) (h6 : (viaS x last).endC = b) (h7 : (viaS x last).endE = c) (h8 : (viaS x last).endB = f) (h : Below w.heap.size w w') :
    PtPost x last w (.returned (.tuple #[.agg #[.string (sb r), .int .i64 lo, .int .i64 hi, .int .u8 d], .agg #[.int .i64 a, .int .i64 b, .int .i64 c], .bool f])) w' := by
  subst h1 h2 h3 h4 h5 h6 h7 h8; exact ⟨rfl, h⟩
set_option maxRecDepth 100000 in
set_option maxHeartbeats 4000000 in
theorem takePoint_any (x : Ln) (last : Bool) (v : Value) (w : World) (E : Env w) (h : FsR w w.heap.size v x.2) (hok : LnOk x) :
    Calls Tryz.prog 320 #[.agg #[.int .i64 x.1, v], .bool last] w (PtPost x last w) := by
  have H0 := Lib.hid (fun o1 o2 o3 => h.grow' ((((Below.refl w.heap.size w).alloc (Nat.le_refl _) o1).alloc (by simp) o2).alloc (by simp; omega) o3))
  obtain ⟨A, c, rfl, hc, hm⟩ := fld_le h
  obtain ⟨n, hnn⟩ : ∃ n, x.2.length = n := ⟨_, rfl⟩
  rw [hnn] at hc H0 ⊢
  have HOK := Lib.hid hok
  clear h hnn hok
  obtain ⟨num, hnum⟩ : ∃ a, x.1 = a := ⟨_, rfl⟩
  have HNUM := Lib.hid hnum
  rw [hnum]
  clear hnum
  go_enter Tryz.func320, Tryz.ntmps320
  go_wp2_with fail
  refine (scan_any num _ x.2 _ (H0.out _ _ _) HOK.out.1).mono ?_
  rintro e w1 ⟨g, rfl, hg, hsc, hb1⟩
  simp only [World.size_alloc] at hg
  have HB1 : Hid (Below w.heap.size w w1) := ((((Below.refl w.heap.size w).alloc (Nat.le_refl _) _).alloc (by simp) _).alloc (by simp; omega) _).trans (hb1.mono (by simp; omega))
  have R1 : Hid (PtBk w1 (w.heap.size + 1) pt0) := (hb1.block _ (by simp)).trans (alloc3a w _ _ _).1
  have R2 : Hid (DgT w1 (w.heap.size + 2) 0 0 0) := (hb1.block _ (by simp)).trans (alloc3a w _ _ _).2
  have hgl := hsc.lt
  have HSC : Hid (ScP w1 g (scan0 x.1 x.2)) := by unfold Hid; rw [HNUM.out]; exact hsc
  clear hb1 hsc
  go_wp2_with fail
  refine (free_any _).mono ?_
  rintro e w2 ⟨rfl, rfl⟩
  have KF : Hid (Below w1.heap.size w1 (w1.alloc (.cells #[.int .i64 (-200000), .int .i64 6000000] 51))) := (Below.refl _ _).alloc (Nat.le_refl _) _
  have HSC := Lib.hid (HSC.out.below KF.out)
  have R1 : Hid (PtBk (w1.alloc (.cells #[.int .i64 (-200000), .int .i64 6000000] 51)) (w.heap.size + 1) pt0) := (KF.out.block _ (heap_lt2 R1.out)).trans R1.out
  have R2 : Hid (DgT (w1.alloc (.cells #[.int .i64 (-200000), .int .i64 6000000] 51)) (w.heap.size + 2) 0 0 0) := (KF.out.block _ (heap_lt2 R2.out)).trans R2.out
  have HB1 := Lib.hid (Below.then_ HB1.out KF.out)
  clear KF hgl
  obtain ⟨wf, hwf⟩ : ∃ wf, w1.alloc (.cells #[.int .i64 (-200000), .int .i64 6000000] 51) = wf := ⟨_, rfl⟩
  rw [hwf] at HSC R1 R2 HB1 ⊢
  clear hwf
  have hgl := HSC.out.lt
  obtain ⟨bp, hbp⟩ : ∃ b, wf.heap.size = b := ⟨_, rfl⟩
  have T0 : Hid (PkR ScP w g bp (scan0 x.1 x.2) ⟨[], -200000, 6000000, 0⟩ (wf.alloc (.cells #[.string (sb []), .int .i64 (-200000), .int .i64 6000000, .int .u8 0] 53))) := by
    have hb : Below wf.heap.size wf (wf.alloc (.cells #[.string (sb []), .int .i64 (-200000), .int .i64 6000000, .int .u8 0] 53)) := (Below.refl _ _).alloc (Nat.le_refl _) _
    exact ⟨HSC.out.below hb, by rw [← hbp]; exact heap_alloc_new wf _, (hb.block _ (heap_lt2 R1.out)).trans R1.out, (hb.block _ (heap_lt2 R2.out)).trans R2.out, by omega, by omega, Below.then_ HB1.out hb⟩
  have T0w := Lib.hid (T0.out.palloc (.cells #[.string ⟨#[86, 73, 65]⟩] 9))
  have HWD := Lib.hid (wdr1 (wf.alloc (.cells #[.string (sb []), .int .i64 (-200000), .int .i64 6000000, .int .u8 0] 53)) g ⟨#[86, 73, 65]⟩ T0.out.sc.lt)
  have HBP : Hid (wf.heap.size = bp) := hbp
  have hs1 : (wf.alloc (.cells #[.string (sb []), .int .i64 (-200000), .int .i64 6000000, .int .u8 0] 53)).heap.size = bp + 1 := by rw [World.size_alloc, hbp]
  rw [hs1] at HWD
  clear hbp hs1 T0
  go_wp2_with fail
  rw [HBP.out]
  refine (word_any (scan0 x.1 x.2) g _ viaW _ T0w.out.sc HWD.out).mono ?_
  rintro e w3 ⟨rfl, hp⟩
  have T1 : Hid (PkR ScP w g bp (via1 x) ⟨[], -200000, 6000000, 0⟩ w3) := T0w.out.call hp.1 hp.2
  clear hp T0w HWD
  go_wp2_with fail
  refine (field_any (via1 x) g _ T1.out.sc).mono ?_
  rintro e w4 ⟨rfl, hp⟩
  have T2 : Hid (PkR ScP w g bp (via2 x) ⟨[], -200000, 6000000, 0⟩ w4) := T1.out.call hp.1 hp.2
  have LT : Hid ((via1 x).text.length ≤ 140737488351232) := LnOk.text (by rw [via1_fs]; exact HOK.out.2)
  obtain ⟨tx, htx⟩ : ∃ t, (via1 x).text = t := ⟨_, rfl⟩
  rw [htx] at LT ⊢
  have HTX := Lib.hid htx
  have T3 : Hid (PkR ScP w g bp (via2 x) ⟨tx, -200000, 6000000, 0⟩ (w4.setCell ⟨bp, 0, none⟩ (.string (sb tx)))) := T2.out.pset rfl
  obtain ⟨c0, c1, c2, c3, c4⟩ := T2.out.bx.cells
  obtain ⟨f0, f1, f2, f3⟩ := T2.out.bx.frees
  clear hp htx T1 T2
  go_wp2_with fail
  refine (splitRef_any (sb tx) _ (by have := LT.out; unfold maxLen; show tx.length ≤ _; omega)).mono ?_
  rintro e w5 ⟨a, b, rfl, _, _, _, _, hd⟩
  rw [bl_sb]
  have T4 := Lib.hid (T3.out.pthen hd.below)
  clear hd T3 c0 c1 c2 c3 c4 f0 f1 f2 f3
  obtain ⟨er, her⟩ : ∃ x, refErr tx = x := ⟨_, rfl⟩
  rw [her]
  have HER := Lib.hid her
  clear her
  have E5 := E.below T4.out.be
  go_upto_if 32 with (fail)
  go_cut [34] (fun _ wx => Hid (PkR ScP w g bp (via3 x) ⟨tx, -200000, 6000000, 0⟩ wx))
  case first =>
    by_cases h0 : er = 0
    · have e1 : (er != 0) = false := bne_eq_false_iff_eq.2 h0
      have HS : Hid (via3 x = via2 x) := by unfold Hid via3; rw [HTX.out, HER.out, if_pos h0]
      clear h0
      go_wp2
      go_meet
      unfold Hid; rw [HS.out]; exact T4.out
    · have e1 : (er != 0) = true := bne_iff_ne.2 h0
      have HS : Hid (via3 x = (via2 x).note (via2 x).la 5) := by unfold Hid via3; rw [HTX.out, HER.out, if_neg h0]
      clear h0
      go_wp2_with fail
      refine (failS_any (via2 x) 5 g _ T4.out.sc).mono ?_
      rintro e w6 ⟨rfl, hp⟩
      have T5 := Lib.hid (T4.out.call hp.1 hp.2)
      clear hp
      go_wp2
      go_meet
      unfold Hid; rw [HS.out]; exact T5.out
  case rest =>
    have T6 := hcut
    have E6 := E.below T6.out.be
    have hgn : 12 ≤ g := by have := E.size; have := T6.out.lo; omega
    have LT3 : Hid ((via3 x).text.length ≤ 140737488351232) := LnOk.text (by rw [via3_fs]; exact HOK.out.2)
    go_upto_if 36 with (fail)
    go_cut [44] (fun _ wx => Hid (PkR ScP w g bp (viaS x last) (viaP x last) wx))
    case first =>
      cases last
      · go_wp2_with fail
        refine (winS_any (via3 x) g _ E6 hgn LT3.out T6.out.sc).mono ?_
        rintro e w7 ⟨rfl, hp⟩
        have T7 : Hid (PkR ScP w g bp (via4 x) ⟨tx, -200000, 6000000, 0⟩ w7) := T6.out.call hp.1 hp.2
        obtain ⟨lo, hlo⟩ : ∃ y, (via3 x).tv 0 winSLo = y := ⟨_, rfl⟩
        obtain ⟨hi, hhi⟩ : ∃ y, (via3 x).tv 0 winSHi = y := ⟨_, rfl⟩
        rw [hlo, hhi]
        have T8 : Hid (PkR ScP w g bp (via4 x) ⟨tx, lo, hi, 0⟩ ((w7.setCell ⟨bp, 1, none⟩ (.int .i64 lo)).setCell ⟨bp, 2, none⟩ (.int .i64 hi))) :=
          (T7.out.pset (p' := ⟨tx, lo, 6000000, 0⟩) rfl).pset rfl
        have HLO := Lib.hid hlo
        have HHI := Lib.hid hhi
        obtain ⟨c0, c1, c2, c3, c4⟩ := T7.out.bx.cells
        obtain ⟨f0, f1, f2, f3⟩ := T7.out.bx.frees
        clear hp hlo hhi T7
        go_wp2_with fail
        refine (words3_any _).mono ?_
        rintro e w8 ⟨rfl, rfl⟩
        have HWD := Lib.hid (wdr3 _ g T8.out.sc.lt)
        have T9 := Lib.hid (T8.out.palloc (.cells #[.string ⟨#[66, 79, 84, 72]⟩, .string ⟨#[70, 79, 82, 87, 65, 82, 68]⟩, .string ⟨#[66, 65, 67, 75, 87, 65, 82, 68]⟩] 9))
        have hsz : ((w7.setCell ⟨bp, 1, none⟩ (.int .i64 lo)).setCell ⟨bp, 2, none⟩ (.int .i64 hi)).heap.size = w7.heap.size := by simp
        rw [hsz] at HWD
        clear T8 c0 c1 c2 c3 c4 f0 f1 f2 f3 hsz
        go_wp2_with fail
        refine (word_any (via4 x) g _ dirW _ T9.out.sc HWD.out).mono ?_
        rintro e w8 ⟨rfl, hp⟩
        have T10 : Hid (PkR ScP w g bp (via5 x) ⟨tx, lo, hi, 0⟩ w8) := T9.out.call hp.1 hp.2
        obtain ⟨hd1, hd2, hd3, hd4, hd5⟩ := dir_nat x
        have HVD : Hid ((via4 x).tv (-1) (fun t => wordAt dirW t 0) = viaDir x) := rfl
        rw [HVD.out]
        obtain ⟨d, hd⟩ : ∃ d, viaDir x = d := ⟨_, rfl⟩
        rw [hd] at hd1 hd2 hd3 hd4 hd5 ⊢
        have HD1 := Lib.hid hd1
        have HD := Lib.hid hd
        have T11 : Hid (PkR ScP w g bp (via5 x) ⟨tx, lo, hi, (d % 256).toNat⟩ (w8.setCell ⟨bp, 3, none⟩ (.int .u8 (d % 256)))) := T10.out.pset (by rw [HD1.out]; rfl)
        have HPT : Hid (viaP x false = ⟨tx, lo, hi, (d % 256).toNat⟩) := by unfold Hid viaP; rw [if_neg (by decide), HTX.out, HLO.out, HHI.out, HD.out]
        obtain ⟨c0, c1, c2, c3, c4⟩ := T10.out.bx.cells
        obtain ⟨f0, f1, f2, f3⟩ := T10.out.bx.frees
        have hwr : IntKind.u8.wrap d = d % 256 := by simp [IntKind.wrap, IntKind.bits, IntKind.signed]
        clear hp T9 HWD T10 hd hd1
        go_wp2
        go_meet
        unfold Hid; rw [HPT.out]; exact T11.out
      · have HPT : Hid (viaP x true = ⟨tx, -200000, 6000000, 0⟩) := by unfold Hid viaP; rw [if_pos rfl, HTX.out]
        go_wp2
        go_meet
        unfold Hid; rw [HPT.out]; exact T6.out
    case rest =>
      have T7 := hcut
      obtain ⟨S, hS⟩ : ∃ S, viaS x last = S := ⟨_, rfl⟩
      obtain ⟨P, hP⟩ : ∃ P, viaP x last = P := ⟨_, rfl⟩
      rw [hS, hP] at T7
      have HS := Lib.hid hS
      have HP := Lib.hid hP
      clear hS hP
      go_wp2_with fail
      refine (endS_any S g _ T7.out.sc).mono ?_
      rintro e w8 ⟨rfl, hb⟩
      have T8 := Lib.hid (T7.out.pthen hb)
      clear hb
      obtain ⟨el, hel⟩ : ∃ x, S.endL = x := ⟨_, rfl⟩
      obtain ⟨ec, hec⟩ : ∃ x, S.endC = x := ⟨_, rfl⟩
      obtain ⟨ee, hee⟩ : ∃ x, S.endE = x := ⟨_, rfl⟩
      obtain ⟨eb, heb⟩ : ∃ x, S.endB = x := ⟨_, rfl⟩
      rw [hel, hec, hee, heb]
      have HEL := Lib.hid hel
      have HEC := Lib.hid hec
      have HEE := Lib.hid hee
      have HEB := Lib.hid heb
      clear hel hec hee heb
      obtain ⟨c0, c1, c2, c3, c4⟩ := T8.out.bx.cells
      obtain ⟨r0, r1, r2, r3, r4⟩ := T8.out.r1.cells
      obtain ⟨q0, q1, q2, q3⟩ := T8.out.r1.frees
      obtain ⟨d0, d1, d2, d3⟩ := T8.out.r2.cells
      obtain ⟨e0, e1, e2⟩ := T8.out.r2.frees
      have hlo := T8.out.lo
      have hgb := T8.out.gb
      have hb1 : w.heap.size + 1 < bp := by omega
      have hb2 : w.heap.size + 2 < bp := by omega
      have HBE := Lib.hid T8.out.be
      clear hlo hgb
      go_wp2
      go_region
      go_wp2
      exact bodyPost_ret (v := .tuple #[.agg #[.string (sb P.ref), .int .i64 P.lo, .int .i64 P.hi, .int .u8 (P.dir : Int)], .agg #[.int .i64 el, .int .i64 ec, .int .i64 ee], .bool eb]) (by simp [results, Tryz.results320, go_sem, r0, r1, r2, r3, r4, d0, d1, d2, d3]) rfl (ptPost_mk (by rw [HP.out]) (by rw [HP.out]) (by rw [HP.out]) (by rw [HP.out]) (by rw [HS.out]; exact HEL.out) (by rw [HS.out]; exact HEC.out) (by rw [HS.out]; exact HEE.out) (by rw [HS.out]; exact HEB.out) (by repeat (with_reducible first | exact HBE.out | refine Below.setCell ?_ (by simp; try omega) _ | refine Below.drew ?_ | refine below_drewN' ?_ _ | refine Below.alloc ?_ (by have := HBE.out.size; simp; try omega) _)))
end Go.Proofs.YtgmehlgfilpleaaGreatDoor
