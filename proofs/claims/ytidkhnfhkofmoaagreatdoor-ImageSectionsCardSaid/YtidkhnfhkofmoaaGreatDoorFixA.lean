/-
  Contracts: the fix of a record, or its diagnostic; both sides.
-/
import Derived.Test.YtidkhnfhkofmoaaGreatDoorMG14
namespace Go.Proofs.YtidkhnfhkofmoaaGreatDoor
open Go.RowKit
set_option linter.unusedVariables false
set_option linter.unusedSimpArgs false

theorem FsR.grow {w w' : World} {v : Value} {fs : List FldI} (h : FsR w w.heap.size v fs) (hb : Below w.heap.size w w') : FsR w' w'.heap.size v fs :=
 (h.keep fun k hk => hb.block k hk).mono hb.size
theorem TkR.frees {P : World → Nat → Sc → Prop} {w0 w : World} {g bf : Nat} {s : Sc} {f : Fx} (h : TkR P w0 g bf s f w) :
  w.frozen? ⟨w0.heap.size + 1, 0, none⟩ = false ∧ w.frozen? ⟨w0.heap.size + 1, 1, none⟩ = false ∧ w.frozen? ⟨w0.heap.size + 1, 2, none⟩ = false ∧ w.frozen? ⟨w0.heap.size + 1, 3, none⟩ = false ∧ w.frozen? ⟨w0.heap.size + 1, 4, none⟩ = false ∧ w.frozen? ⟨w0.heap.size + 1, 5, none⟩ = false ∧ w.frozen? ⟨w0.heap.size + 1, 6, none⟩ = false :=
 ⟨frozen_of_row w _ _ _ _ h.r1, frozen_of_row w _ _ _ _ h.r1, frozen_of_row w _ _ _ _ h.r1, frozen_of_row w _ _ _ _ h.r1, frozen_of_row w _ _ _ _ h.r1, frozen_of_row w _ _ _ _ h.r1, frozen_of_row w _ _ _ _ h.r1⟩
theorem TkR.dgs {P : World → Nat → Sc → Prop} {w0 w : World} {g bf : Nat} {s : Sc} {f : Fx} (h : TkR P w0 g bf s f w) :
  w.cell? ⟨w0.heap.size + 2, 0, none⟩ = some (.int .i64 0) ∧ w.cell? ⟨w0.heap.size + 2, 1, none⟩ = some (.int .i64 0) ∧ w.cell? ⟨w0.heap.size + 2, 2, none⟩ = some (.int .i64 0) ∧
  w.frozen? ⟨w0.heap.size + 2, 0, none⟩ = false ∧ w.frozen? ⟨w0.heap.size + 2, 1, none⟩ = false ∧ w.frozen? ⟨w0.heap.size + 2, 2, none⟩ = false ∧ w0.heap.size + 2 < w.heap.size ∧ w0.heap.size + 2 < bf :=
 ⟨blkCell' h.r2 0 rfl, blkCell' h.r2 1 rfl, blkCell' h.r2 2 rfl, frozen_of_row w _ _ _ _ h.r2, frozen_of_row w _ _ _ _ h.r2, frozen_of_row w _ _ _ _ h.r2, lt_heap h.r2, by have := h.gb; have := h.lo; omega⟩
def TakeFPost (s : Sc) (w : World) (e : Ending) (w' : World) : Prop :=
 e = .returned (.tuple #[.agg #[.string (sb (tkOut s).id), .string (sb (tkOut s).rg), .int .u8 ((tkOut s).kd : Int), .int .i64 (tkOut s).lat, .int .i64 (tkOut s).lon, .int .i64 (tkOut s).el, .int .i64 (tkOut s).ra], .agg #[.int .i64 (tk6 s).endL, .int .i64 (tk6 s).endC, .int .i64 (tk6 s).endE], .bool (tk6 s).endB]) ∧ Below w.heap.size w w'
theorem takeF_bad {s : Sc} {w w' : World} {a b c : Int} (h : (tk6 s).endB = true) (h1 : (tk6 s).endL = a) (h2 : (tk6 s).endC = b) (h3 : (tk6 s).endE = c) (hb : Below w.heap.size w w') :
  TakeFPost s w (.returned (.tuple #[.agg #[.string ⟨#[]⟩, .string ⟨#[]⟩, .int .u8 0, .int .i64 0, .int .i64 0, .int .i64 0, .int .i64 0], .agg #[.int .i64 a, .int .i64 b, .int .i64 c], .bool true])) w' := by
 refine ⟨?_, hb⟩
 have : tkOut s = fx0 := by unfold tkOut; rw [if_pos h]
 rw [this, h, h1, h2, h3]; rfl
theorem takeF_ok {s : Sc} {w w' : World} {f : Fx} (hf : tkFx s = f) (h : (tk6 s).endB = false) (h1 : (tk6 s).endL = 0) (h2 : (tk6 s).endC = 0) (h3 : (tk6 s).endE = 0) (hb : Below w.heap.size w w') :
  TakeFPost s w (.returned (.tuple #[.agg #[.string (sb f.id), .string (sb f.rg), .int .u8 (f.kd : Int), .int .i64 f.lat, .int .i64 f.lon, .int .i64 f.el, .int .i64 f.ra], .agg #[.int .i64 0, .int .i64 0, .int .i64 0], .bool false])) w' := by
 refine ⟨?_, hb⟩
 have : tkOut s = f := by unfold tkOut; rw [if_neg (by rw [h]; decide), hf]
 rw [this, h, h1, h2, h3]
theorem end_zero {s : Sc} (h : s.endB = false) : s.endL = 0 ∧ s.endC = 0 ∧ s.endE = 0 := by
 unfold Sc.endB at h
 rw [Bool.or_eq_false_iff, decide_eq_false_iff_not] at h
 have := end_ok h.1 h.2
 exact ⟨this.1, this.2.1, this.2.2.1⟩
theorem alloc3 (w : World) (o1 o2 o3 : Obj) : (((w.alloc o1).alloc o2).alloc o3).heap[w.heap.size + 1]? = some o2 ∧ (((w.alloc o1).alloc o2).alloc o3).heap[w.heap.size + 2]? = some o3 := by
 have h2 := heap_alloc_new (w.alloc o1) o2
 have h3 := heap_alloc_new ((w.alloc o1).alloc o2) o3
 simp only [World.size_alloc] at h2 h3
 exact ⟨(((Below.refl _ _).alloc (Nat.le_refl _) o3).block (w.heap.size + 1) (by simp)).trans h2, h3⟩
set_option maxRecDepth 100000 in
set_option maxHeartbeats 4000000 in
theorem takeF_any (num : Int) (v : Value) (fs : List FldI) (w : World) (E : Env w) (h : FsR w w.heap.size v fs) (hN : fs.length ≤ 1000000000000) (hS : ∀ f ∈ fs, f.1.length ≤ 140737488351232) :
  Calls Tryz.prog 71 #[.agg #[.int .i64 num, v]] w (TakeFPost (scan0 num fs) w) := by
 have H0 := Lib.hid (fun o1 o2 o3 => h.grow ((((Below.refl w.heap.size w).alloc (Nat.le_refl _) o1).alloc (by simp) o2).alloc (by simp; omega) o3))
 obtain ⟨A, c, rfl, hc, hm⟩ := fld_le h
 obtain ⟨n, hnn⟩ : ∃ n, fs.length = n := ⟨_, rfl⟩
 rw [hnn] at hc H0 ⊢
 have HN := Lib.hid hN
 have HS := Lib.hid hS
 obtain ⟨s0, hs0⟩ : ∃ s, scan0 num fs = s := ⟨_, rfl⟩
 have HFS : Hid (s0.fs = fs) := by rw [← hs0]; rfl
 have HS0 := Lib.hid hs0
 rw [hs0]
 clear h hnn hN hS hs0
 obtain ⟨hk1, hk2⟩ := tkKd_eq s0
 obtain ⟨kd, hkd⟩ : ∃ k, tkKd s0 = k := ⟨_, rfl⟩
 rw [hkd] at hk1 hk2
 obtain ⟨x, hx⟩ : ∃ x, s0.tv (-1) (fun t => wordAt kindWords t 0) = x := ⟨_, rfl⟩
 rw [hx] at hk1
 have HK := Lib.hid hkd
 have HX := Lib.hid hx
 have HK1 := Lib.hid hk1
 have x0 : (0 : Int) ≤ x + 1 := by omega
 have x6 : x + 1 ≤ 6 := by omega
 have x5 : x ≤ 5 := by omega
 have xm : (-1 : Int) ≤ x := by omega
 have hkb : (kd : Int) ≤ 6 := by omega
 clear hkd hx hk1 hk2
 go_enter Tryz.func71, Tryz.ntmps71
 go_wp2_with fail
 refine (scan_any num _ fs _ (H0.out _ _ _) (by have := HN.out; omega)).mono ?_
 rintro e w1 ⟨g, rfl, hg, hsc, hb1⟩
 rw [HS0.out] at hsc
 simp only [World.size_alloc] at hg
 have HB1 : Hid (Below w.heap.size w w1) := ((((Below.refl w.heap.size w).alloc (Nat.le_refl _) _).alloc (by simp) _).alloc (by simp; omega) _).trans (hb1.mono (by simp; omega))
 have R1 : Hid (FxBox w1 (w.heap.size + 1) fx0) := (hb1.block _ (by simp)).trans (alloc3 w _ _ _).1
 have R2 : Hid (DgBox w1 (w.heap.size + 2)) := (hb1.block _ (by simp)).trans (alloc3 w _ _ _).2
 have hgl := hsc.lt
 have E1 : Env w1 := E.below HB1.out
 have HSC := Lib.hid hsc
 clear hb1 hsc
 go_wp2_with fail
 refine (kwords_any _).mono ?_
 rintro e w2 ⟨rfl, rfl⟩
 have HSC2 := Lib.hid (HSC.out.alloc kwObj)
 have HW2 := Lib.hid (kw_wdr hgl)
 have HO2 : Hid (Off g w1 (w1.alloc kwObj)) := (Off.refl g w1).alloc _
 obtain ⟨wk, hwk⟩ : ∃ wk, w1.alloc kwObj = wk := ⟨_, rfl⟩
 rw [hwk] at HSC2 HW2 HO2 ⊢
 clear hwk
 go_wp2_with fail
 refine (word_any s0 g _ kindWords _ HSC2.out HW2.out).mono ?_
 rintro e w2 ⟨rfl, hp⟩
 rw [HX.out]
 have T0 : Hid (TkR ScP w g w2.heap.size (s0.tk (wordE kindWords)) ⟨[], [], kd, 0, 0, 0, 0⟩ (w2.alloc (.cells #[.string ⟨#[]⟩, .string ⟨#[]⟩, .int .u8 (x + 1), .int .i64 0, .int .i64 0, .int .i64 0, .int .i64 0] 73))) := by
  have ho := HO2.out.trans hp.2
  have hl := hp.1.lt
  have l1 := lt_heap R1.out
  have l2 := lt_heap R2.out
  rw [HK1.out]
  refine ⟨hp.1.alloc _, fxBox_new w2 ⟨[], [], kd, 0, 0, 0, 0⟩, ?_, ?_, hl, by omega, ?_⟩
  ·exact (((Off.refl g w2).alloc _).block _ (Nat.lt_of_lt_of_le l1 ho.size) (by intro e; injection e with e; omega)).trans ((ho.block _ l1 (by intro e; injection e with e; omega)).trans R1.out)
  ·exact (((Off.refl g w2).alloc _).block _ (Nat.lt_of_lt_of_le l2 ho.size) (by intro e; injection e with e; omega)).trans ((ho.block _ l2 (by intro e; injection e with e; omega)).trans R2.out)
  ·exact (ho.below HB1.out (by omega) (by omega)).alloc (by have := ho.size; omega) _
 have E2 : Env w2 := E1.of_below ((HO2.out.trans hp.2).below (Below.refl 12 w1) (by have := E.size; omega) E1.size) (Nat.le_refl _)
 clear hp
 obtain ⟨bf, hbf⟩ : ∃ b, w2.heap.size = b := ⟨_, rfl⟩
 rw [hbf] at T0
 have HBF := Lib.hid hbf
 obtain ⟨s1, hs1⟩ : ∃ s, s0.tk (wordE kindWords) = s := ⟨_, rfl⟩
 have F1 : Hid (s1.fs = fs) := by unfold Hid; rw [← hs1, Sc.tk_fs]; exact HFS.out
 have HS1 := Lib.hid hs1
 rw [hs1] at T0
 clear hs1 hbf
 go_wp2_with fail
 refine (field_any s1 g _ T0.out.sc).mono ?_
 rintro e w3 ⟨rfl, hp⟩
 rw [HBF.out]
 have T1 := Lib.hid (T0.out.call hp.1 hp.2)
 have hgn : 12 ≤ g := by have := E1.size; have := T1.out.lo; have := E.size; omega
 have E3 : Env w3 := E.of_below (T1.out.be.mono E.size) (Nat.le_refl _)
 clear hp T0
 obtain ⟨t1, ht1⟩ : ∃ t, s1.text = t := ⟨_, rfl⟩
 have L1 : Hid (t1.length ≤ 140737488351232) := by
  rw [← ht1]
  exact Sc.text_le (by rw [F1.out]; exact HS.out)
 rw [ht1]
 have HT1 := Lib.hid ht1
 clear ht1
 obtain ⟨c0, c1, c2, c3, c4, c5, c6⟩ : FxCells w3 bf (sb []) (sb []) kd 0 0 0 0 := T1.out.cells
 have f0 := T1.out.free 0
 have hbl := T1.out.lt
 have T2 := Lib.hid (T1.out.pid t1)
 go_wp2_with fail
 refine (identified_any (sb t1) kd _ (by have := L1.out; unfold maxLen; show t1.length ≤ _; omega)).mono ?_
 rintro e w4 ⟨rfl, hd⟩
 rw [bl_sb]
 have T3 := Lib.hid (T2.out.call (T2.out.sc.below hd.below) (Off.of_below hd.below))
 clear hd T2 c0 c1 c2 c3 c4 c5 c6 f0 hbl
 obtain ⟨e1, he1⟩ : ∃ x, identE t1 kd = x := ⟨_, rfl⟩
 rw [he1]
 have HE1 := Lib.hid he1
 clear he1
 go_wp2_with fail
 refine (failS_any s1.take e1 g _ T3.out.sc).mono ?_
 rintro e w5 ⟨rfl, hp⟩
 have T4 := Lib.hid (T3.out.call hp.1 hp.2)
 clear hp T3
 obtain ⟨s2, hs2⟩ : ∃ s, s1.take.note s1.take.la e1 = s := ⟨_, rfl⟩
 have HS2 : Hid (tk2 s0 = s2) := by
  unfold Hid tk2 tkNm; rw [HS1.out, HT1.out, HK.out]; show s1.take.note s1.take.la (identE t1 kd) = s2; rw [HE1.out, hs2]
 have F2 : Hid (s2.fs = fs) := by unfold Hid; rw [← hs2, Sc.note_fs, Sc.take_fs]; exact F1.out
 rw [hs2] at T4
 clear hs2
 obtain ⟨c0, c1, c2, c3, c4, c5, c6⟩ : FxCells w5 bf (sb t1) (sb []) kd 0 0 0 0 := T4.out.cells
 have hbl := T4.out.lt
 go_wp2_with fail
 refine (field_any s2 g _ T4.out.sc).mono ?_
 rintro e w6 ⟨rfl, hp⟩
 have T5 := Lib.hid (T4.out.call hp.1 hp.2)
 clear hp T4 c0 c1 c2 c3 c4 c5 c6 hbl
 obtain ⟨t2, ht2⟩ : ∃ t, s2.text = t := ⟨_, rfl⟩
 have L2 : Hid (t2.length ≤ 140737488351232) := by
  rw [← ht2]
  exact Sc.text_le (by rw [F2.out]; exact HS.out)
 rw [ht2]
 have HT2 := Lib.hid ht2
 clear ht2
 obtain ⟨c0, c1, c2, c3, c4, c5, c6⟩ : FxCells w6 bf (sb t1) (sb []) kd 0 0 0 0 := T5.out.cells
 have f1 := T5.out.free 1
 have hbl := T5.out.lt
 have T6 := Lib.hid (T5.out.prg t2)
 go_wp2_with fail
 refine (located_any (sb t2) kd _ (by have := L2.out; unfold maxLen; show t2.length ≤ _; omega)).mono ?_
 rintro e w7 ⟨rfl, hd⟩
 rw [bl_sb]
 have T7 := Lib.hid (T6.out.call (T6.out.sc.below hd.below) (Off.of_below hd.below))
 clear hd T5 T6 c0 c1 c2 c3 c4 c5 c6 f1 hbl
 obtain ⟨e2, he2⟩ : ∃ x, locE t2 kd = x := ⟨_, rfl⟩
 rw [he2]
 have HE2 := Lib.hid he2
 clear he2
 go_wp2_with fail
 refine (failS_any s2.take e2 g _ T7.out.sc).mono ?_
 rintro e w8 ⟨rfl, hp⟩
 have T8 := Lib.hid (T7.out.call hp.1 hp.2)
 clear hp T7
 obtain ⟨s3, hs3⟩ : ∃ s, s2.take.note s2.take.la e2 = s := ⟨_, rfl⟩
 have HS3 : Hid (tk3 s0 = s3) := by
  unfold Hid tk3; rw [HS2.out]; unfold tkNm; rw [HT2.out, HK.out]; show s2.take.note s2.take.la (locE t2 kd) = s3; rw [HE2.out, hs3]
 have F3 : Hid (s3.fs = fs) := by unfold Hid; rw [← hs3, Sc.note_fs, Sc.take_fs]; exact F2.out
 rw [hs3] at T8
 clear hs3
 have L3 : Hid (s3.text.length ≤ 140737488351232) := Sc.text_le (by rw [F3.out]; exact HS.out)
 obtain ⟨c0, c1, c2, c3, c4, c5, c6⟩ : FxCells w8 bf (sb t1) (sb t2) kd 0 0 0 0 := T8.out.cells
 have hbl := T8.out.lt
 go_wp2_with fail
 refine (posS_any s3 g _ L3.out T8.out.sc).mono ?_
 rintro e w9 ⟨rfl, hp⟩
 have T9 := Lib.hid (T8.out.call hp.1 hp.2)
 clear hp T8 c0 c1 c2 c3 c4 c5 c6 hbl
 obtain ⟨la, hla⟩ : ∃ t, s3.tv 0 posPLat = t := ⟨_, rfl⟩
 obtain ⟨lo, hlo⟩ : ∃ t, s3.tv 0 posPLon = t := ⟨_, rfl⟩
 rw [hla, hlo]
 have HLA := Lib.hid hla
 have HLO := Lib.hid hlo
 obtain ⟨s4, hs4⟩ : ∃ s, s3.tk posPErr = s := ⟨_, rfl⟩
 have HS4 : Hid (tk4 s0 = s4) := by unfold Hid tk4; rw [HS3.out, hs4]
 have F4 : Hid (s4.fs = fs) := by unfold Hid; rw [← hs4, Sc.tk_fs]; exact F3.out
 rw [hs4] at T9
 clear hs4 hla hlo
 obtain ⟨c0, c1, c2, c3, c4, c5, c6⟩ : FxCells w9 bf (sb t1) (sb t2) kd 0 0 0 0 := T9.out.cells
 have f3 := T9.out.free 3
 have f4 := T9.out.free 4
 have hbl := T9.out.lt
 have T10 := Lib.hid ((T9.out.plat la).plon lo)
 have L4 : Hid (s4.text.length ≤ 140737488351232) := Sc.text_le (by rw [F4.out]; exact HS.out)
 have E4 : Env ((w9.setCell ⟨bf, 3, none⟩ (.int .i64 la)).setCell ⟨bf, 4, none⟩ (.int .i64 lo)) := E.of_below (T10.out.be.mono E.size) (Nat.le_refl _)
 go_wp2_with fail
 refine (elevated_any kd _).mono ?_
 rintro e w10 ⟨rfl, rfl⟩
 have HEV0 : Hid (elevB kd = false → tk5 s0 = s4 ∧ elV s4 kd = 0) := by
  intro hb; unfold tk5; rw [HS4.out, HK.out]; unfold tkEl elV; rw [hb]; exact ⟨rfl, rfl⟩
 have HEV1 : Hid (elevB kd = true → tk5 s0 = s4.tk (fun t => pAltE (altSpec t)) ∧ elV s4 kd = s4.tv 0 (fun t => pAltN (altSpec t))) := by
  intro hb; unfold tk5; rw [HS4.out, HK.out]; unfold tkEl elV; rw [hb]; exact ⟨rfl, rfl⟩
 have HNV0 : Hid (navB kd = false → tk6 s0 = tk5 s0 ∧ raV (tk5 s0) kd = 0) := by
  intro hb; unfold tk6; rw [HK.out]; unfold tkRa raV; rw [hb]; exact ⟨rfl, rfl⟩
 have HNV1 : Hid (navB kd = true → tk6 s0 = (if raV (tk5 s0) kd = 0 then (tkDs (tk5 s0)).note (tkDs (tk5 s0)).la 2 else tkDs (tk5 s0)) ∧ raV (tk5 s0) kd = (tk5 s0).tv 0 (fun t => distN (distSpec t))) := by
  intro hb; unfold tk6; rw [HK.out]; unfold tkRa raV; rw [hb]; exact ⟨rfl, rfl⟩
 have HFX : Hid (∀ a b, elV s4 kd = a → raV (tk5 s0) kd = b → tkFx s0 = ⟨t1, t2, kd, la, lo, a, b⟩) := by
  intro a b ha hb; unfold tkFx; rw [HS1.out, HS2.out, HS3.out, HS4.out, HK.out, HT1.out, HT2.out, HLA.out, HLO.out, ha, hb]
 have HEX : Hid (elevB kd = true → navB kd = true → False) := by
  intro h1 h2; have := elev_yes h1; rcases nav_ways h2 with ⟨_, _, _⟩ | ⟨h, _⟩ | ⟨h, _⟩; omega; cases h; cases h
 cases hev : elevB kd
 ·have HV := Lib.hid (HEV0.out hev)
  clear hev
  go_wp2_with fail
  refine (navaid_any kd _).mono ?_
  rintro e w11 ⟨rfl, rfl⟩
  cases hnv : navB kd
  ·have HW := Lib.hid (HNV0.out hnv)
   clear hnv
   obtain ⟨s6, hs6⟩ : ∃ s, s4 = s := ⟨_, rfl⟩
   have HS6 : Hid (tk6 s0 = s6) := by unfold Hid; rw [HW.out.1, HV.out.1, hs6]
   have HF6 : Hid (tkFx s0 = ⟨t1, t2, kd, la, lo, 0, 0⟩) := HFX.out 0 0 HV.out.2 HW.out.2
   have TT := T10.out
   rw [hs6] at TT
   have TT := Lib.hid TT
   clear hs6
   go_wp2_with fail
   refine (endS_any s6 g _ TT.out.sc).mono ?_
   rintro e wz ⟨rfl, hb⟩
   have TZ := Lib.hid (TT.out.call (TT.out.sc.below hb) (Off.of_below hb))
   clear hb
   clear c0 c1 c2 c3 c4 c5 c6 f3 f4 hbl
   obtain ⟨c0, c1, c2, c3, c4, c5, c6⟩ : FxCells wz bf (sb t1) (sb t2) kd la lo 0 0 := TZ.out.cells
   obtain ⟨r0, r1, r2, r3, r4, r5, r6⟩ : FxCells wz (w.heap.size + 1) ⟨#[]⟩ ⟨#[]⟩ 0 0 0 0 0 := TZ.out.r1.cells
   obtain ⟨q0, q1, q2, q3, q4, q5, q6⟩ := TZ.out.frees
   obtain ⟨d0, d1, d2, d3, d4, d5, d6, d7⟩ := TZ.out.dgs
   have hbl := TZ.out.lt
   have hl1 : w.heap.size + 1 < wz.heap.size := by omega
   cases hend : s6.endB
   ·have hz := end_zero hend
    rw [hz.1, hz.2.1, hz.2.2]
    have HZ := Lib.hid hz
    have HD := Lib.hid hend
    clear hz hend
    go_wp2
    exact bodyPost_ret (v := .tuple #[.agg #[.string (sb t1), .string (sb t2), .int .u8 (kd : Int), .int .i64 la, .int .i64 lo, .int .i64 0, .int .i64 0], .agg #[.int .i64 0, .int .i64 0, .int .i64 0], .bool false]) (by simp [results, Tryz.results71, go_sem, r0, r1, r2, r3, r4, r5, r6, d0, d1, d2, d6, hl1]) rfl (takeF_ok HF6.out (by rw [HS6.out]; exact HD.out) (by rw [HS6.out]; exact HZ.out.1) (by rw [HS6.out]; exact HZ.out.2.1) (by rw [HS6.out]; exact HZ.out.2.2) (by repeat (first | with_reducible exact TZ.out.be | with_reducible refine Below.setCell ?_ (by first | (simp; done) | (simp; omega)) _ | with_reducible refine Below.drew ?_ | with_reducible refine below_drewN' ?_ _ | with_reducible refine Below.alloc ?_ (by first | (simp; done) | (simp; omega)) _)))
   ·have HD := Lib.hid hend
    obtain ⟨xl, hxl⟩ : ∃ x, s6.endL = x := ⟨_, rfl⟩
    obtain ⟨xc, hxc⟩ : ∃ x, s6.endC = x := ⟨_, rfl⟩
    obtain ⟨xe, hxe⟩ : ∃ x, s6.endE = x := ⟨_, rfl⟩
    rw [hxl, hxc, hxe]
    have HXL := Lib.hid hxl
    have HXC := Lib.hid hxc
    have HXE := Lib.hid hxe
    clear hend hxl hxc hxe
    go_wp2
    go_region
    go_wp2
    exact bodyPost_ret (v := .tuple #[.agg #[.string ⟨#[]⟩, .string ⟨#[]⟩, .int .u8 0, .int .i64 0, .int .i64 0, .int .i64 0, .int .i64 0], .agg #[.int .i64 xl, .int .i64 xc, .int .i64 xe], .bool true]) (by simp [results, Tryz.results71, go_sem, r0, r1, r2, r3, r4, r5, r6, d0, d1, d2, d6, hl1]) rfl (takeF_bad (by rw [HS6.out]; exact HD.out) (by rw [HS6.out]; exact HXL.out) (by rw [HS6.out]; exact HXC.out) (by rw [HS6.out]; exact HXE.out) (by repeat (first | with_reducible exact TZ.out.be | with_reducible refine Below.setCell ?_ (by first | (simp; done) | (simp; omega)) _ | with_reducible refine Below.drew ?_ | with_reducible refine below_drewN' ?_ _ | with_reducible refine Below.alloc ?_ (by first | (simp; done) | (simp; omega)) _)))
  ·have HW := Lib.hid (HNV1.out hnv)
   clear hnv
   have HV1 : Hid (tk5 s0 = s4) := HV.out.1
   have HW1 := HW.out
   rw [HV1.out] at HW1
   have HW2 := Lib.hid HW1
   have HFX2 := HFX.out
   rw [HV1.out] at HFX2
   have HFX3 := Lib.hid HFX2
   clear HW1 HFX2
   go_wp2_with fail
   refine (distS_any s4 g _ E4 L4.out hgn T10.out.sc).mono ?_
   rintro e w11 ⟨rfl, hp⟩
   have T11 := Lib.hid (T10.out.call hp.1 hp.2)
   clear hp c0 c1 c2 c3 c4 c5 c6 f3 f4 hbl
   obtain ⟨ra, hra⟩ : ∃ t, s4.tv 0 (fun t => distN (distSpec t)) = t := ⟨_, rfl⟩
   have HRV : Hid (raV s4 kd = ra) := by unfold Hid; rw [HW2.out.2, hra]
   have hra0 : 0 ≤ ra := by rw [← HRV.out]; exact raV_nonneg _ _
   rw [hra]
   clear hra
   obtain ⟨s5, hs5⟩ : ∃ s, s4.tk (fun t => distE (distSpec t)) = s := ⟨_, rfl⟩
   have HS5 : Hid (tkDs s4 = s5) := hs5
   rw [hs5] at T11
   clear hs5
   obtain ⟨c0, c1, c2, c3, c4, c5, c6⟩ : FxCells w11 bf (sb t1) (sb t2) kd la lo 0 0 := T11.out.cells
   have f6 := T11.out.free 6
   have hbl := T11.out.lt
   have T12 := Lib.hid (T11.out.pra ra)
   have HF6 : Hid (tkFx s0 = ⟨t1, t2, kd, la, lo, 0, ra⟩) := HFX3.out 0 ra HV.out.2 HRV.out
   by_cases hz : ra = 0
   ·have HZ0 := Lib.hid hz
    have e1 : (ra == 0) = true := beq_iff_eq.2 hz
    have hlt1 : ra < 1 := by omega
    clear hz
    go_wp2_with fail
    refine (failS_any s5 2 g _ T12.out.sc).mono ?_
    rintro e w12 ⟨rfl, hp⟩
    have T13 := Lib.hid (T12.out.call hp.1 hp.2)
    clear hp
    obtain ⟨s6, hs6⟩ : ∃ s, s5.note s5.la 2 = s := ⟨_, rfl⟩
    have HS6 : Hid (tk6 s0 = s6) := by
     unfold Hid
     rw [HW2.out.1, HRV.out, if_pos HZ0.out, HS5.out, hs6]
    rw [hs6] at T13
    clear hs6
    go_wp2_with fail
    refine (endS_any s6 g _ T13.out.sc).mono ?_
    rintro e wz ⟨rfl, hb⟩
    have TZ := Lib.hid (T13.out.call (T13.out.sc.below hb) (Off.of_below hb))
    clear hb
    clear c0 c1 c2 c3 c4 c5 c6 f6 hbl e1 hlt1
    obtain ⟨c0, c1, c2, c3, c4, c5, c6⟩ : FxCells wz bf (sb t1) (sb t2) kd la lo 0 ra := TZ.out.cells
    obtain ⟨r0, r1, r2, r3, r4, r5, r6⟩ : FxCells wz (w.heap.size + 1) ⟨#[]⟩ ⟨#[]⟩ 0 0 0 0 0 := TZ.out.r1.cells
    obtain ⟨q0, q1, q2, q3, q4, q5, q6⟩ := TZ.out.frees
    obtain ⟨d0, d1, d2, d3, d4, d5, d6, d7⟩ := TZ.out.dgs
    have hbl := TZ.out.lt
    have hl1 : w.heap.size + 1 < wz.heap.size := by omega
    cases hend : s6.endB
    ·have hz := end_zero hend
     rw [hz.1, hz.2.1, hz.2.2]
     have HZ := Lib.hid hz
     have HD := Lib.hid hend
     clear hz hend
     go_wp2
     exact bodyPost_ret (v := .tuple #[.agg #[.string (sb t1), .string (sb t2), .int .u8 (kd : Int), .int .i64 la, .int .i64 lo, .int .i64 0, .int .i64 ra], .agg #[.int .i64 0, .int .i64 0, .int .i64 0], .bool false]) (by simp [results, Tryz.results71, go_sem, r0, r1, r2, r3, r4, r5, r6, d0, d1, d2, d6, hl1]) rfl (takeF_ok HF6.out (by rw [HS6.out]; exact HD.out) (by rw [HS6.out]; exact HZ.out.1) (by rw [HS6.out]; exact HZ.out.2.1) (by rw [HS6.out]; exact HZ.out.2.2) (by repeat (first | with_reducible exact TZ.out.be | with_reducible refine Below.setCell ?_ (by first | (simp; done) | (simp; omega)) _ | with_reducible refine Below.drew ?_ | with_reducible refine below_drewN' ?_ _ | with_reducible refine Below.alloc ?_ (by first | (simp; done) | (simp; omega)) _)))
    ·have HD := Lib.hid hend
     obtain ⟨xl, hxl⟩ : ∃ x, s6.endL = x := ⟨_, rfl⟩
     obtain ⟨xc, hxc⟩ : ∃ x, s6.endC = x := ⟨_, rfl⟩
     obtain ⟨xe, hxe⟩ : ∃ x, s6.endE = x := ⟨_, rfl⟩
     rw [hxl, hxc, hxe]
     have HXL := Lib.hid hxl
     have HXC := Lib.hid hxc
     have HXE := Lib.hid hxe
     clear hend hxl hxc hxe
     go_wp2
     go_region
     go_wp2
     exact bodyPost_ret (v := .tuple #[.agg #[.string ⟨#[]⟩, .string ⟨#[]⟩, .int .u8 0, .int .i64 0, .int .i64 0, .int .i64 0, .int .i64 0], .agg #[.int .i64 xl, .int .i64 xc, .int .i64 xe], .bool true]) (by simp [results, Tryz.results71, go_sem, r0, r1, r2, r3, r4, r5, r6, d0, d1, d2, d6, hl1]) rfl (takeF_bad (by rw [HS6.out]; exact HD.out) (by rw [HS6.out]; exact HXL.out) (by rw [HS6.out]; exact HXC.out) (by rw [HS6.out]; exact HXE.out) (by repeat (first | with_reducible exact TZ.out.be | with_reducible refine Below.setCell ?_ (by first | (simp; done) | (simp; omega)) _ | with_reducible refine Below.drew ?_ | with_reducible refine below_drewN' ?_ _ | with_reducible refine Below.alloc ?_ (by first | (simp; done) | (simp; omega)) _)))
   ·have HZ0 := Lib.hid hz
    have e1 : (ra == 0) = false := beq_eq_false_iff_ne.2 hz
    have hlt1 : 1 ≤ ra := by omega
    clear hz
    obtain ⟨s6, hs6⟩ : ∃ s, s5 = s := ⟨_, rfl⟩
    have HS6 : Hid (tk6 s0 = s6) := by
     unfold Hid
     rw [HW2.out.1, HRV.out, if_neg HZ0.out, HS5.out, hs6]
    rw [hs6] at T12
    clear hs6
    go_wp2_with fail
    refine (endS_any s6 g _ T12.out.sc).mono ?_
    rintro e wz ⟨rfl, hb⟩
    have TZ := Lib.hid (T12.out.call (T12.out.sc.below hb) (Off.of_below hb))
    clear hb
    clear c0 c1 c2 c3 c4 c5 c6 f6 hbl e1 hlt1
    obtain ⟨c0, c1, c2, c3, c4, c5, c6⟩ : FxCells wz bf (sb t1) (sb t2) kd la lo 0 ra := TZ.out.cells
    obtain ⟨r0, r1, r2, r3, r4, r5, r6⟩ : FxCells wz (w.heap.size + 1) ⟨#[]⟩ ⟨#[]⟩ 0 0 0 0 0 := TZ.out.r1.cells
    obtain ⟨q0, q1, q2, q3, q4, q5, q6⟩ := TZ.out.frees
    obtain ⟨d0, d1, d2, d3, d4, d5, d6, d7⟩ := TZ.out.dgs
    have hbl := TZ.out.lt
    have hl1 : w.heap.size + 1 < wz.heap.size := by omega
    cases hend : s6.endB
    ·have hz := end_zero hend
     rw [hz.1, hz.2.1, hz.2.2]
     have HZ := Lib.hid hz
     have HD := Lib.hid hend
     clear hz hend
     go_wp2
     exact bodyPost_ret (v := .tuple #[.agg #[.string (sb t1), .string (sb t2), .int .u8 (kd : Int), .int .i64 la, .int .i64 lo, .int .i64 0, .int .i64 ra], .agg #[.int .i64 0, .int .i64 0, .int .i64 0], .bool false]) (by simp [results, Tryz.results71, go_sem, r0, r1, r2, r3, r4, r5, r6, d0, d1, d2, d6, hl1]) rfl (takeF_ok HF6.out (by rw [HS6.out]; exact HD.out) (by rw [HS6.out]; exact HZ.out.1) (by rw [HS6.out]; exact HZ.out.2.1) (by rw [HS6.out]; exact HZ.out.2.2) (by repeat (first | with_reducible exact TZ.out.be | with_reducible refine Below.setCell ?_ (by first | (simp; done) | (simp; omega)) _ | with_reducible refine Below.drew ?_ | with_reducible refine below_drewN' ?_ _ | with_reducible refine Below.alloc ?_ (by first | (simp; done) | (simp; omega)) _)))
    ·have HD := Lib.hid hend
     obtain ⟨xl, hxl⟩ : ∃ x, s6.endL = x := ⟨_, rfl⟩
     obtain ⟨xc, hxc⟩ : ∃ x, s6.endC = x := ⟨_, rfl⟩
     obtain ⟨xe, hxe⟩ : ∃ x, s6.endE = x := ⟨_, rfl⟩
     rw [hxl, hxc, hxe]
     have HXL := Lib.hid hxl
     have HXC := Lib.hid hxc
     have HXE := Lib.hid hxe
     clear hend hxl hxc hxe
     go_wp2
     go_region
     go_wp2
     exact bodyPost_ret (v := .tuple #[.agg #[.string ⟨#[]⟩, .string ⟨#[]⟩, .int .u8 0, .int .i64 0, .int .i64 0, .int .i64 0, .int .i64 0], .agg #[.int .i64 xl, .int .i64 xc, .int .i64 xe], .bool true]) (by simp [results, Tryz.results71, go_sem, r0, r1, r2, r3, r4, r5, r6, d0, d1, d2, d6, hl1]) rfl (takeF_bad (by rw [HS6.out]; exact HD.out) (by rw [HS6.out]; exact HXL.out) (by rw [HS6.out]; exact HXC.out) (by rw [HS6.out]; exact HXE.out) (by repeat (first | with_reducible exact TZ.out.be | with_reducible refine Below.setCell ?_ (by first | (simp; done) | (simp; omega)) _ | with_reducible refine Below.drew ?_ | with_reducible refine below_drewN' ?_ _ | with_reducible refine Below.alloc ?_ (by first | (simp; done) | (simp; omega)) _)))
 ·have HV := Lib.hid (HEV1.out hev)
  have HNN : Hid (navB kd = false) := by
   unfold Hid
   cases hnv : navB kd
   ·rfl
   ·exact (HEX.out hev hnv).elim
  have HW := Lib.hid (HNV0.out HNN.out)
  clear hev
  go_wp2_with fail
  refine (altS_any s4 g _ E4 L4.out hgn T10.out.sc).mono ?_
  rintro e w11 ⟨rfl, hp⟩
  have T11 := Lib.hid (T10.out.call hp.1 hp.2)
  clear hp c0 c1 c2 c3 c4 c5 c6 f3 f4 hbl
  obtain ⟨ev, hev⟩ : ∃ t, s4.tv 0 (fun t => pAltN (altSpec t)) = t := ⟨_, rfl⟩
  have HEL : Hid (elV s4 kd = ev) := by unfold Hid; rw [HV.out.2, hev]
  rw [hev]
  clear hev
  obtain ⟨s6, hs6⟩ : ∃ s, s4.tk (fun t => pAltE (altSpec t)) = s := ⟨_, rfl⟩
  have HS6 : Hid (tk6 s0 = s6) := by unfold Hid; rw [HW.out.1, HV.out.1, hs6]
  have HF6 : Hid (tkFx s0 = ⟨t1, t2, kd, la, lo, ev, 0⟩) := HFX.out ev 0 HEL.out HW.out.2
  rw [hs6] at T11
  clear hs6
  obtain ⟨c0, c1, c2, c3, c4, c5, c6⟩ : FxCells w11 bf (sb t1) (sb t2) kd la lo 0 0 := T11.out.cells
  have f5 := T11.out.free 5
  have hbl := T11.out.lt
  have T12 := Lib.hid (T11.out.pel ev)
  go_wp2_with fail
  refine (navaid_any kd _).mono ?_
  rintro e w12 ⟨rfl, rfl⟩
  rw [HNN.out]
  go_wp2_with fail
  refine (endS_any s6 g _ T12.out.sc).mono ?_
  rintro e wz ⟨rfl, hb⟩
  have TZ := Lib.hid (T12.out.call (T12.out.sc.below hb) (Off.of_below hb))
  clear hb
  clear c0 c1 c2 c3 c4 c5 c6 f5 hbl
  obtain ⟨c0, c1, c2, c3, c4, c5, c6⟩ : FxCells wz bf (sb t1) (sb t2) kd la lo ev 0 := TZ.out.cells
  obtain ⟨r0, r1, r2, r3, r4, r5, r6⟩ : FxCells wz (w.heap.size + 1) ⟨#[]⟩ ⟨#[]⟩ 0 0 0 0 0 := TZ.out.r1.cells
  obtain ⟨q0, q1, q2, q3, q4, q5, q6⟩ := TZ.out.frees
  obtain ⟨d0, d1, d2, d3, d4, d5, d6, d7⟩ := TZ.out.dgs
  have hbl := TZ.out.lt
  have hl1 : w.heap.size + 1 < wz.heap.size := by omega
  cases hend : s6.endB
  ·have hz := end_zero hend
   rw [hz.1, hz.2.1, hz.2.2]
   have HZ := Lib.hid hz
   have HD := Lib.hid hend
   clear hz hend
   go_wp2
   exact bodyPost_ret (v := .tuple #[.agg #[.string (sb t1), .string (sb t2), .int .u8 (kd : Int), .int .i64 la, .int .i64 lo, .int .i64 ev, .int .i64 0], .agg #[.int .i64 0, .int .i64 0, .int .i64 0], .bool false]) (by simp [results, Tryz.results71, go_sem, r0, r1, r2, r3, r4, r5, r6, d0, d1, d2, d6, hl1]) rfl (takeF_ok HF6.out (by rw [HS6.out]; exact HD.out) (by rw [HS6.out]; exact HZ.out.1) (by rw [HS6.out]; exact HZ.out.2.1) (by rw [HS6.out]; exact HZ.out.2.2) (by repeat (first | with_reducible exact TZ.out.be | with_reducible refine Below.setCell ?_ (by first | (simp; done) | (simp; omega)) _ | with_reducible refine Below.drew ?_ | with_reducible refine below_drewN' ?_ _ | with_reducible refine Below.alloc ?_ (by first | (simp; done) | (simp; omega)) _)))
  ·have HD := Lib.hid hend
   obtain ⟨xl, hxl⟩ : ∃ x, s6.endL = x := ⟨_, rfl⟩
   obtain ⟨xc, hxc⟩ : ∃ x, s6.endC = x := ⟨_, rfl⟩
   obtain ⟨xe, hxe⟩ : ∃ x, s6.endE = x := ⟨_, rfl⟩
   rw [hxl, hxc, hxe]
   have HXL := Lib.hid hxl
   have HXC := Lib.hid hxc
   have HXE := Lib.hid hxe
   clear hend hxl hxc hxe
   go_wp2
   go_region
   go_wp2
   exact bodyPost_ret (v := .tuple #[.agg #[.string ⟨#[]⟩, .string ⟨#[]⟩, .int .u8 0, .int .i64 0, .int .i64 0, .int .i64 0, .int .i64 0], .agg #[.int .i64 xl, .int .i64 xc, .int .i64 xe], .bool true]) (by simp [results, Tryz.results71, go_sem, r0, r1, r2, r3, r4, r5, r6, d0, d1, d2, d6, hl1]) rfl (takeF_bad (by rw [HS6.out]; exact HD.out) (by rw [HS6.out]; exact HXL.out) (by rw [HS6.out]; exact HXC.out) (by rw [HS6.out]; exact HXE.out) (by repeat (first | with_reducible exact TZ.out.be | with_reducible refine Below.setCell ?_ (by first | (simp; done) | (simp; omega)) _ | with_reducible refine Below.drew ?_ | with_reducible refine below_drewN' ?_ _ | with_reducible refine Below.alloc ?_ (by first | (simp; done) | (simp; omega)) _)))
end Go.Proofs.YtidkhnfhkofmoaaGreatDoor
