/-
  Arguments that are databases, opened to cells: their numbers are in range.
-/
import Derived.Test.YtlhniiakacbbeaaGreatDoorMG23
namespace Go.Proofs.YtlhniiakacbbeaaGreatDoor
open Go.ChangeShapes Go.WideShapes Go.Deep Go.RowKit
set_option linter.unusedVariables false
set_option linter.unusedSimpArgs false
def LgI (l : Lg) : Prop := I64 l.cr ∧ I64 l.ds ∧ I64 l.ra ∧ I64 l.th ∧ I64 l.lo ∧ I64 l.hi ∧ I64 l.sp ∧ I64 l.rn
def PaI (x : Pa) : Prop := ∀ g ∈ x.lg, LgI g
def PrI (p : Prc) : Prop := ∀ x ∈ p.pa, PaI x
def PtI (p : Pt) : Prop := I64 p.lo ∧ I64 p.hi
def AwI (a : AwD) : Prop := ∀ p ∈ a.ps, PtI p
def FxI (f : Fx) : Prop := I64 f.lat ∧ I64 f.lon ∧ I64 f.el ∧ I64 f.ra
def HdI (h : ImHd) : Prop := I64 h.cy ∧ I64 h.fr ∧ I64 h.tu ∧ I64 h.la ∧ I64 h.lo
def DbI (d : DbD) : Prop := HdI d.hd ∧ (∀ f ∈ d.fx, FxI f) ∧ (∀ a ∈ d.aw, AwI a) ∧ (∀ p ∈ d.pr, PrI p)
theorem i64_bd {d : Int} (hd : (Lit.int .i64 d).wf = true) : I64 d := by
 have e1 : IntKind.i64.min = -9223372036854775808 := by decide
 have e2 : IntKind.i64.max = 9223372036854775807 := by decide
 simp [Lit.wf] at hd
 unfold I64; omega
section
variable {H : Type} {enc : TypeId × Value → H} {w : World} {base : Nat} {held : Bool}
set_option maxRecDepth 100000 in
theorem open_legI {fuel : Nat} {cs : List Value} {x : DataW H × List MemPlace} (h : DataW.trod enc Tryz.prog w base (fun _ => true) held fuel 65 cs = some x) : ∃ l : Lg, cs = lgc l ∧ LgOk l ∧ LgI l := by
 obtain ⟨ys, n, _, _, hl, hyl, hf⟩ := DataW.trod_struct Tryz.underlying65 h
 rw [db_cApiLeg] at hl
 match cs, hl with
 | [c0, c1, c2, c3, c4, c5, c6, c7, c8, c9, c10, c11, c12], _ =>
  have h0 : DataW.trod enc Tryz.prog w base (fun _ => true) held n 63 (([c0, c1, c2, c3, c4, c5, c6, c7, c8, c9, c10, c11, c12].drop 0).take (Tryz.prog.cellsOf 63)) = ys[0]? := hf 0 _ rfl
  rw [db_cLegType] at h0
  have h1 : DataW.trod enc Tryz.prog w base (fun _ => true) held n 9 (([c0, c1, c2, c3, c4, c5, c6, c7, c8, c9, c10, c11, c12].drop 1).take (Tryz.prog.cellsOf 9)) = ys[1]? := hf 1 _ rfl
  rw [db_cString] at h1
  have h2 : DataW.trod enc Tryz.prog w base (fun _ => true) held n 9 (([c0, c1, c2, c3, c4, c5, c6, c7, c8, c9, c10, c11, c12].drop 2).take (Tryz.prog.cellsOf 9)) = ys[2]? := hf 2 _ rfl
  rw [db_cString] at h2
  have h3 : DataW.trod enc Tryz.prog w base (fun _ => true) held n 5 (([c0, c1, c2, c3, c4, c5, c6, c7, c8, c9, c10, c11, c12].drop 3).take (Tryz.prog.cellsOf 5)) = ys[3]? := hf 3 _ rfl
  rw [db_cU8] at h3
  have h4 : DataW.trod enc Tryz.prog w base (fun _ => true) held n 4 (([c0, c1, c2, c3, c4, c5, c6, c7, c8, c9, c10, c11, c12].drop 4).take (Tryz.prog.cellsOf 4)) = ys[4]? := hf 4 _ rfl
  rw [db_cBool] at h4
  have h5 : DataW.trod enc Tryz.prog w base (fun _ => true) held n 2 (([c0, c1, c2, c3, c4, c5, c6, c7, c8, c9, c10, c11, c12].drop 5).take (Tryz.prog.cellsOf 2)) = ys[5]? := hf 5 _ rfl
  rw [db_cI64] at h5
  have h6 : DataW.trod enc Tryz.prog w base (fun _ => true) held n 2 (([c0, c1, c2, c3, c4, c5, c6, c7, c8, c9, c10, c11, c12].drop 6).take (Tryz.prog.cellsOf 2)) = ys[6]? := hf 6 _ rfl
  rw [db_cI64] at h6
  have h7 : DataW.trod enc Tryz.prog w base (fun _ => true) held n 2 (([c0, c1, c2, c3, c4, c5, c6, c7, c8, c9, c10, c11, c12].drop 7).take (Tryz.prog.cellsOf 2)) = ys[7]? := hf 7 _ rfl
  rw [db_cI64] at h7
  have h8 : DataW.trod enc Tryz.prog w base (fun _ => true) held n 2 (([c0, c1, c2, c3, c4, c5, c6, c7, c8, c9, c10, c11, c12].drop 8).take (Tryz.prog.cellsOf 2)) = ys[8]? := hf 8 _ rfl
  rw [db_cI64] at h8
  have h9 : DataW.trod enc Tryz.prog w base (fun _ => true) held n 51 (([c0, c1, c2, c3, c4, c5, c6, c7, c8, c9, c10, c11, c12].drop 9).take (Tryz.prog.cellsOf 51)) = ys[9]? := hf 9 _ rfl
  rw [db_cWindow] at h9
  have h10 : DataW.trod enc Tryz.prog w base (fun _ => true) held n 2 (([c0, c1, c2, c3, c4, c5, c6, c7, c8, c9, c10, c11, c12].drop 11).take (Tryz.prog.cellsOf 2)) = ys[10]? := hf 10 _ rfl
  rw [db_cI64] at h10
  have h11 : DataW.trod enc Tryz.prog w base (fun _ => true) held n 2 (([c0, c1, c2, c3, c4, c5, c6, c7, c8, c9, c10, c11, c12].drop 12).take (Tryz.prog.cellsOf 2)) = ys[11]? := hf 11 _ rfl
  rw [db_cI64] at h11
  match ys, hyl with
  | [z0, z1, z2, z3, z4, z5, z6, z7, z8, z9, z10, z11], _ =>
   obtain ⟨ty, e0, _, g_ty⟩ := DataW.trod_int Tryz.underlying63 (show DataW.trod enc Tryz.prog w base (fun _ => true) held n 63 [c0] = some z0 from h0)
   obtain ⟨fi, e1, _, w_fi⟩ := DataW.trod_string Tryz.underlying9 (show DataW.trod enc Tryz.prog w base (fun _ => true) held n 9 [c1] = some z1 from h1)
   obtain ⟨ce, e2, _, w_ce⟩ := DataW.trod_string Tryz.underlying9 (show DataW.trod enc Tryz.prog w base (fun _ => true) held n 9 [c2] = some z2 from h2)
   obtain ⟨tn, e3, _, g_tn⟩ := DataW.trod_int Tryz.underlying5 (show DataW.trod enc Tryz.prog w base (fun _ => true) held n 5 [c3] = some z3 from h3)
   obtain ⟨ov, e4, _⟩ := DataW.trod_bool Tryz.underlying4 (show DataW.trod enc Tryz.prog w base (fun _ => true) held n 4 [c4] = some z4 from h4)
   obtain ⟨cr, e5, _, g_cr⟩ := DataW.trod_int Tryz.underlying2 (show DataW.trod enc Tryz.prog w base (fun _ => true) held n 2 [c5] = some z5 from h5)
   obtain ⟨ds, e6, _, g_ds⟩ := DataW.trod_int Tryz.underlying2 (show DataW.trod enc Tryz.prog w base (fun _ => true) held n 2 [c6] = some z6 from h6)
   obtain ⟨ra, e7, _, g_ra⟩ := DataW.trod_int Tryz.underlying2 (show DataW.trod enc Tryz.prog w base (fun _ => true) held n 2 [c7] = some z7 from h7)
   obtain ⟨th, e8, _, g_th⟩ := DataW.trod_int Tryz.underlying2 (show DataW.trod enc Tryz.prog w base (fun _ => true) held n 2 [c8] = some z8 from h8)
   obtain ⟨vs9, m9, _, _, _, hvl9, hg9⟩ := DataW.trod_struct Tryz.underlying51 (show DataW.trod enc Tryz.prog w base (fun _ => true) held n 51 [c9, c10] = some z9 from h9)
   have g90 : DataW.trod enc Tryz.prog w base (fun _ => true) held m9 2 (([c9, c10].drop 0).take (Tryz.prog.cellsOf 2)) = vs9[0]? := hg9 0 _ rfl
   have g91 : DataW.trod enc Tryz.prog w base (fun _ => true) held m9 2 (([c9, c10].drop 1).take (Tryz.prog.cellsOf 2)) = vs9[1]? := hg9 1 _ rfl
   rw [db_cI64] at g90 g91
   obtain ⟨y90, y91, hy9⟩ : ∃ a b, vs9 = [a, b] := by
    match vs9, hvl9 with
    | [a, b], _ => exact ⟨a, b, rfl⟩
   rw [hy9] at g90 g91
   obtain ⟨lo, e90, _, g_lo⟩ := DataW.trod_int Tryz.underlying2 (show DataW.trod enc Tryz.prog w base (fun _ => true) held m9 2 [c9] = some y90 from g90)
   obtain ⟨hi, e91, _, g_hi⟩ := DataW.trod_int Tryz.underlying2 (show DataW.trod enc Tryz.prog w base (fun _ => true) held m9 2 [c10] = some y91 from g91)
   obtain ⟨sp, e10, _, g_sp⟩ := DataW.trod_int Tryz.underlying2 (show DataW.trod enc Tryz.prog w base (fun _ => true) held n 2 [c11] = some z10 from h10)
   obtain ⟨rn, e11, _, g_rn⟩ := DataW.trod_int Tryz.underlying2 (show DataW.trod enc Tryz.prog w base (fun _ => true) held n 2 [c12] = some z11 from h11)
   obtain rfl : c0 = .int .u8 ty := by simpa using e0
   obtain rfl : c1 = .string fi := by simpa using e1
   obtain rfl : c2 = .string ce := by simpa using e2
   obtain rfl : c3 = .int .u8 tn := by simpa using e3
   obtain rfl : c4 = .bool ov := by simpa using e4
   obtain rfl : c5 = .int .i64 cr := by simpa using e5
   obtain rfl : c6 = .int .i64 ds := by simpa using e6
   obtain rfl : c7 = .int .i64 ra := by simpa using e7
   obtain rfl : c8 = .int .i64 th := by simpa using e8
   obtain rfl : c9 = .int .i64 lo := by simpa using e90
   obtain rfl : c10 = .int .i64 hi := by simpa using e91
   obtain rfl : c11 = .int .i64 sp := by simpa using e10
   obtain rfl : c12 = .int .i64 rn := by simpa using e11
   have u_ty : 0 ≤ ty ∧ ty < 256 := u8_bd g_ty
   have u_tn : 0 ≤ tn ∧ tn < 256 := u8_bd g_tn
   refine ⟨⟨ty.toNat, bl fi, bl ce, tn.toNat, ov, cr, ds, ra, th, lo, hi, sp, rn⟩, ?_, ⟨w_fi, w_ce, by show ty.toNat < 256; omega, by show tn.toNat < 256; omega⟩, i64_bd g_cr, i64_bd g_ds, i64_bd g_ra, i64_bd g_th, i64_bd g_lo, i64_bd g_hi, i64_bd g_sp, i64_bd g_rn⟩
   unfold lgc
   rw [sb_bl, sb_bl, show ((ty.toNat : Nat) : Int) = ty by omega, show ((tn.toNat : Nat) : Int) = tn by omega]
theorem open_legsI {fuel : Nat} {v : Value} {x : DataW H × List MemPlace} (h : DataW.trod enc Tryz.prog w base (fun _ => true) held fuel 60 [v] = some x) : ∃ l, LgsR w v l ∧ ∀ g ∈ l, LgI g := by
 obtain ⟨l, h1, h2⟩ := open_listD lgc (fun g => LgOk g ∧ LgI g) Tryz.underlying60 db_cApiLeg (by decide) lgc_len (fun n cs y hy => open_legI hy) h
 exact ⟨l, ⟨h1, fun g hg => (h2 g hg).1⟩, fun g hg => (h2 g hg).2⟩
set_option maxRecDepth 100000 in
theorem open_partI {fuel : Nat} {cs : List Value} {x : DataW H × List MemPlace} (h : DataW.trod enc Tryz.prog w base (fun _ => true) held fuel 62 cs = some x) : ∃ p : Value × Pa, cs = pac p ∧ PaOk w p ∧ PaI p.2 := by
 obtain ⟨ys, n, _, _, hl, hyl, hf⟩ := DataW.trod_struct Tryz.underlying62 h
 rw [db_cApiPart] at hl
 match cs, hl with
 | [c0, c1, c2], _ =>
  have h0 : DataW.trod enc Tryz.prog w base (fun _ => true) held n 59 (([c0, c1, c2].drop 0).take (Tryz.prog.cellsOf 59)) = ys[0]? := hf 0 _ rfl
  rw [db_cPartKind] at h0
  have h1 : DataW.trod enc Tryz.prog w base (fun _ => true) held n 9 (([c0, c1, c2].drop 1).take (Tryz.prog.cellsOf 9)) = ys[1]? := hf 1 _ rfl
  rw [db_cString] at h1
  have h2 : DataW.trod enc Tryz.prog w base (fun _ => true) held n 60 (([c0, c1, c2].drop 2).take (Tryz.prog.cellsOf 60)) = ys[2]? := hf 2 _ rfl
  rw [db_cSlApiLeg] at h2
  match ys, hyl with
  | [z0, z1, z2], _ =>
   obtain ⟨kd, e0, _, g_kd⟩ := DataW.trod_int Tryz.underlying59 (show DataW.trod enc Tryz.prog w base (fun _ => true) held n 59 [c0] = some z0 from h0)
   obtain ⟨nm, e1, _, w_nm⟩ := DataW.trod_string Tryz.underlying9 (show DataW.trod enc Tryz.prog w base (fun _ => true) held n 9 [c1] = some z1 from h1)
   obtain ⟨lg, w_lg⟩ := open_legsI (show DataW.trod enc Tryz.prog w base (fun _ => true) held n 60 [c2] = some z2 from h2)
   obtain rfl : c0 = .int .u8 kd := by simpa using e0
   obtain rfl : c1 = .string nm := by simpa using e1
   have u_kd : 0 ≤ kd ∧ kd < 256 := u8_bd g_kd
   refine ⟨(c2, ⟨kd.toNat, bl nm, lg⟩), ?_, ⟨w_nm, by show kd.toNat < 256; omega, w_lg.1⟩, w_lg.2⟩
   unfold pac
   rw [sb_bl, show ((kd.toNat : Nat) : Int) = kd by omega]
theorem open_partsI {fuel : Nat} {v : Value} {x : DataW H × List MemPlace} (h : DataW.trod enc Tryz.prog w base (fun _ => true) held fuel 55 [v] = some x) : ∃ l, PasR w v l ∧ ∀ g ∈ l, PaI g := by
 obtain ⟨l, h1, h2⟩ := open_listD pac (fun p => PaOk w p ∧ PaI p.2) Tryz.underlying55 db_cApiPart (by decide) pac_len (fun n cs y hy => open_partI hy) h
 refine ⟨l.map (·.2), ⟨l, rfl, h1, fun p hp => (h2 p hp).1⟩, fun g hg => ?_⟩
 obtain ⟨p, hp, rfl⟩ := List.mem_map.1 hg
 exact (h2 p hp).2
set_option maxRecDepth 100000 in
theorem open_procI {fuel : Nat} {cs : List Value} {x : DataW H × List MemPlace} (h : DataW.trod enc Tryz.prog w base (fun _ => true) held fuel 57 cs = some x) : ∃ p : Value × Prc, cs = prc p ∧ PrcOk w p ∧ PrI p.2 := by
 obtain ⟨ys, n, _, _, hl, hyl, hf⟩ := DataW.trod_struct Tryz.underlying57 h
 rw [db_cApiProcedure] at hl
 match cs, hl with
 | [c0, c1, c2, c3], _ =>
  have h0 : DataW.trod enc Tryz.prog w base (fun _ => true) held n 9 (([c0, c1, c2, c3].drop 0).take (Tryz.prog.cellsOf 9)) = ys[0]? := hf 0 _ rfl
  rw [db_cString] at h0
  have h1 : DataW.trod enc Tryz.prog w base (fun _ => true) held n 9 (([c0, c1, c2, c3].drop 1).take (Tryz.prog.cellsOf 9)) = ys[1]? := hf 1 _ rfl
  rw [db_cString] at h1
  have h2 : DataW.trod enc Tryz.prog w base (fun _ => true) held n 54 (([c0, c1, c2, c3].drop 2).take (Tryz.prog.cellsOf 54)) = ys[2]? := hf 2 _ rfl
  rw [db_cProcKind] at h2
  have h3 : DataW.trod enc Tryz.prog w base (fun _ => true) held n 55 (([c0, c1, c2, c3].drop 3).take (Tryz.prog.cellsOf 55)) = ys[3]? := hf 3 _ rfl
  rw [db_cSlApiPart] at h3
  match ys, hyl with
  | [z0, z1, z2, z3], _ =>
   obtain ⟨ap, e0, _, w_ap⟩ := DataW.trod_string Tryz.underlying9 (show DataW.trod enc Tryz.prog w base (fun _ => true) held n 9 [c0] = some z0 from h0)
   obtain ⟨nm, e1, _, w_nm⟩ := DataW.trod_string Tryz.underlying9 (show DataW.trod enc Tryz.prog w base (fun _ => true) held n 9 [c1] = some z1 from h1)
   obtain ⟨kd, e2, _, g_kd⟩ := DataW.trod_int Tryz.underlying54 (show DataW.trod enc Tryz.prog w base (fun _ => true) held n 54 [c2] = some z2 from h2)
   obtain ⟨pa, w_pa⟩ := open_partsI (show DataW.trod enc Tryz.prog w base (fun _ => true) held n 55 [c3] = some z3 from h3)
   obtain rfl : c0 = .string ap := by simpa using e0
   obtain rfl : c1 = .string nm := by simpa using e1
   obtain rfl : c2 = .int .u8 kd := by simpa using e2
   have u_kd : 0 ≤ kd ∧ kd < 256 := u8_bd g_kd
   refine ⟨(c3, ⟨bl ap, bl nm, kd.toNat, pa⟩), ?_, ⟨w_ap, w_nm, by show kd.toNat < 256; omega, w_pa.1⟩, w_pa.2⟩
   unfold prc
   rw [sb_bl, sb_bl, show ((kd.toNat : Nat) : Int) = kd by omega]
theorem open_procsI {fuel : Nat} {v : Value} {x : DataW H × List MemPlace} (h : DataW.trod enc Tryz.prog w base (fun _ => true) held fuel 28 [v] = some x) : ∃ l, PrcsR w v l ∧ ∀ g ∈ l, PrI g := by
 obtain ⟨l, h1, h2⟩ := open_listD prc (fun p => PrcOk w p ∧ PrI p.2) Tryz.underlying28 db_cApiProcedure (by decide) prc_len (fun n cs y hy => open_procI hy) h
 refine ⟨l.map (·.2), ⟨l, rfl, h1, fun p hp => (h2 p hp).1⟩, fun g hg => ?_⟩
 obtain ⟨p, hp, rfl⟩ := List.mem_map.1 hg
 exact (h2 p hp).2
set_option maxRecDepth 100000 in
theorem open_pointI {fuel : Nat} {cs : List Value} {x : DataW H × List MemPlace} (h : DataW.trod enc Tryz.prog w base (fun _ => true) held fuel 53 cs = some x) : ∃ p : Pt, cs = ptc p ∧ PtOkD p ∧ PtI p := by
 obtain ⟨ys, n, _, _, hl, hyl, hf⟩ := DataW.trod_struct Tryz.underlying53 h
 rw [db_cApiAirwaypoint] at hl
 match cs, hl with
 | [c0, c1, c2, c3], _ =>
  have h0 : DataW.trod enc Tryz.prog w base (fun _ => true) held n 9 (([c0, c1, c2, c3].drop 0).take (Tryz.prog.cellsOf 9)) = ys[0]? := hf 0 _ rfl
  rw [db_cString] at h0
  have h1 : DataW.trod enc Tryz.prog w base (fun _ => true) held n 51 (([c0, c1, c2, c3].drop 1).take (Tryz.prog.cellsOf 51)) = ys[1]? := hf 1 _ rfl
  rw [db_cWindow] at h1
  have h2 : DataW.trod enc Tryz.prog w base (fun _ => true) held n 5 (([c0, c1, c2, c3].drop 3).take (Tryz.prog.cellsOf 5)) = ys[2]? := hf 2 _ rfl
  rw [db_cU8] at h2
  match ys, hyl with
  | [z0, z1, z2], _ =>
   obtain ⟨rf, e0, _, w_rf⟩ := DataW.trod_string Tryz.underlying9 (show DataW.trod enc Tryz.prog w base (fun _ => true) held n 9 [c0] = some z0 from h0)
   obtain ⟨vs1, m1, _, _, _, hvl1, hg1⟩ := DataW.trod_struct Tryz.underlying51 (show DataW.trod enc Tryz.prog w base (fun _ => true) held n 51 [c1, c2] = some z1 from h1)
   have g10 : DataW.trod enc Tryz.prog w base (fun _ => true) held m1 2 (([c1, c2].drop 0).take (Tryz.prog.cellsOf 2)) = vs1[0]? := hg1 0 _ rfl
   have g11 : DataW.trod enc Tryz.prog w base (fun _ => true) held m1 2 (([c1, c2].drop 1).take (Tryz.prog.cellsOf 2)) = vs1[1]? := hg1 1 _ rfl
   rw [db_cI64] at g10 g11
   obtain ⟨y10, y11, hy1⟩ : ∃ a b, vs1 = [a, b] := by
    match vs1, hvl1 with
    | [a, b], _ => exact ⟨a, b, rfl⟩
   rw [hy1] at g10 g11
   obtain ⟨lo, e10, _, g_lo⟩ := DataW.trod_int Tryz.underlying2 (show DataW.trod enc Tryz.prog w base (fun _ => true) held m1 2 [c1] = some y10 from g10)
   obtain ⟨hi, e11, _, g_hi⟩ := DataW.trod_int Tryz.underlying2 (show DataW.trod enc Tryz.prog w base (fun _ => true) held m1 2 [c2] = some y11 from g11)
   obtain ⟨dr, e2, _, g_dr⟩ := DataW.trod_int Tryz.underlying5 (show DataW.trod enc Tryz.prog w base (fun _ => true) held n 5 [c3] = some z2 from h2)
   obtain rfl : c0 = .string rf := by simpa using e0
   obtain rfl : c1 = .int .i64 lo := by simpa using e10
   obtain rfl : c2 = .int .i64 hi := by simpa using e11
   obtain rfl : c3 = .int .u8 dr := by simpa using e2
   have u_dr : 0 ≤ dr ∧ dr < 256 := u8_bd g_dr
   refine ⟨⟨bl rf, lo, hi, dr.toNat⟩, ?_, ⟨w_rf, by show dr.toNat < 256; omega⟩, i64_bd g_lo, i64_bd g_hi⟩
   unfold ptc
   rw [sb_bl, show ((dr.toNat : Nat) : Int) = dr by omega]
theorem open_pointsI {fuel : Nat} {v : Value} {x : DataW H × List MemPlace} (h : DataW.trod enc Tryz.prog w base (fun _ => true) held fuel 46 [v] = some x) : ∃ l, PtsR w v l ∧ ∀ g ∈ l, PtI g := by
 obtain ⟨l, h1, h2⟩ := open_listD ptc (fun p => PtOkD p ∧ PtI p) Tryz.underlying46 db_cApiAirwaypoint (by decide) ptc_len (fun n cs y hy => open_pointI hy) h
 exact ⟨l, ⟨h1, fun g hg => (h2 g hg).1⟩, fun g hg => (h2 g hg).2⟩
set_option maxRecDepth 100000 in
theorem open_airI {fuel : Nat} {cs : List Value} {x : DataW H × List MemPlace} (h : DataW.trod enc Tryz.prog w base (fun _ => true) held fuel 48 cs = some x) : ∃ p : Value × AwD, cs = awc p ∧ AwOk w p ∧ AwI p.2 := by
 obtain ⟨ys, n, _, _, hl, hyl, hf⟩ := DataW.trod_struct Tryz.underlying48 h
 rw [db_cApiAirway] at hl
 match cs, hl with
 | [c0, c1], _ =>
  have h0 : DataW.trod enc Tryz.prog w base (fun _ => true) held n 9 (([c0, c1].drop 0).take (Tryz.prog.cellsOf 9)) = ys[0]? := hf 0 _ rfl
  rw [db_cString] at h0
  have h1 : DataW.trod enc Tryz.prog w base (fun _ => true) held n 46 (([c0, c1].drop 1).take (Tryz.prog.cellsOf 46)) = ys[1]? := hf 1 _ rfl
  rw [db_cSlApiAirwaypoint] at h1
  match ys, hyl with
  | [z0, z1], _ =>
   obtain ⟨nm, e0, _, w_nm⟩ := DataW.trod_string Tryz.underlying9 (show DataW.trod enc Tryz.prog w base (fun _ => true) held n 9 [c0] = some z0 from h0)
   obtain ⟨ps, w_ps⟩ := open_pointsI (show DataW.trod enc Tryz.prog w base (fun _ => true) held n 46 [c1] = some z1 from h1)
   obtain rfl : c0 = .string nm := by simpa using e0
   refine ⟨(c1, ⟨bl nm, ps⟩), ?_, ⟨w_nm, w_ps.1⟩, w_ps.2⟩
   unfold awc
   rw [sb_bl]
theorem open_airsI {fuel : Nat} {v : Value} {x : DataW H × List MemPlace} (h : DataW.trod enc Tryz.prog w base (fun _ => true) held fuel 27 [v] = some x) : ∃ l, AwsD w v l ∧ ∀ g ∈ l, AwI g := by
 obtain ⟨l, h1, h2⟩ := open_listD awc (fun p => AwOk w p ∧ AwI p.2) Tryz.underlying27 db_cApiAirway (by decide) awc_len (fun n cs y hy => open_airI hy) h
 refine ⟨l.map (·.2), ⟨l, rfl, h1, fun p hp => (h2 p hp).1⟩, fun g hg => ?_⟩
 obtain ⟨p, hp, rfl⟩ := List.mem_map.1 hg
 exact (h2 p hp).2
set_option maxRecDepth 100000 in
theorem open_fixI {fuel : Nat} {cs : List Value} {x : DataW H × List MemPlace} (h : DataW.trod enc Tryz.prog w base (fun _ => true) held fuel 38 cs = some x) : ∃ f : Fx, cs = fxc f ∧ FxOk f ∧ FxI f := by
 obtain ⟨ys, n, _, _, hl, hyl, hf⟩ := DataW.trod_struct Tryz.underlying38 h
 rw [db_cApiFix] at hl
 match cs, hl with
 | [c0, c1, c2, c3, c4, c5, c6], _ =>
  have h0 : DataW.trod enc Tryz.prog w base (fun _ => true) held n 9 (([c0, c1, c2, c3, c4, c5, c6].drop 0).take (Tryz.prog.cellsOf 9)) = ys[0]? := hf 0 _ rfl
  rw [db_cString] at h0
  have h1 : DataW.trod enc Tryz.prog w base (fun _ => true) held n 9 (([c0, c1, c2, c3, c4, c5, c6].drop 1).take (Tryz.prog.cellsOf 9)) = ys[1]? := hf 1 _ rfl
  rw [db_cString] at h1
  have h2 : DataW.trod enc Tryz.prog w base (fun _ => true) held n 36 (([c0, c1, c2, c3, c4, c5, c6].drop 2).take (Tryz.prog.cellsOf 36)) = ys[2]? := hf 2 _ rfl
  rw [db_cApiKind] at h2
  have h3 : DataW.trod enc Tryz.prog w base (fun _ => true) held n 23 (([c0, c1, c2, c3, c4, c5, c6].drop 3).take (Tryz.prog.cellsOf 23)) = ys[3]? := hf 3 _ rfl
  rw [db_cPos] at h3
  have h4 : DataW.trod enc Tryz.prog w base (fun _ => true) held n 2 (([c0, c1, c2, c3, c4, c5, c6].drop 5).take (Tryz.prog.cellsOf 2)) = ys[4]? := hf 4 _ rfl
  rw [db_cI64] at h4
  have h5 : DataW.trod enc Tryz.prog w base (fun _ => true) held n 2 (([c0, c1, c2, c3, c4, c5, c6].drop 6).take (Tryz.prog.cellsOf 2)) = ys[5]? := hf 5 _ rfl
  rw [db_cI64] at h5
  match ys, hyl with
  | [z0, z1, z2, z3, z4, z5], _ =>
   obtain ⟨id, e0, _, w_id⟩ := DataW.trod_string Tryz.underlying9 (show DataW.trod enc Tryz.prog w base (fun _ => true) held n 9 [c0] = some z0 from h0)
   obtain ⟨rg, e1, _, w_rg⟩ := DataW.trod_string Tryz.underlying9 (show DataW.trod enc Tryz.prog w base (fun _ => true) held n 9 [c1] = some z1 from h1)
   obtain ⟨kd, e2, _, g_kd⟩ := DataW.trod_int Tryz.underlying36 (show DataW.trod enc Tryz.prog w base (fun _ => true) held n 36 [c2] = some z2 from h2)
   obtain ⟨vs3, m3, _, _, _, hvl3, hg3⟩ := DataW.trod_struct Tryz.underlying23 (show DataW.trod enc Tryz.prog w base (fun _ => true) held n 23 [c3, c4] = some z3 from h3)
   have g30 : DataW.trod enc Tryz.prog w base (fun _ => true) held m3 2 (([c3, c4].drop 0).take (Tryz.prog.cellsOf 2)) = vs3[0]? := hg3 0 _ rfl
   have g31 : DataW.trod enc Tryz.prog w base (fun _ => true) held m3 2 (([c3, c4].drop 1).take (Tryz.prog.cellsOf 2)) = vs3[1]? := hg3 1 _ rfl
   rw [db_cI64] at g30 g31
   obtain ⟨y30, y31, hy3⟩ : ∃ a b, vs3 = [a, b] := by
    match vs3, hvl3 with
    | [a, b], _ => exact ⟨a, b, rfl⟩
   rw [hy3] at g30 g31
   obtain ⟨la, e30, _, g_la⟩ := DataW.trod_int Tryz.underlying2 (show DataW.trod enc Tryz.prog w base (fun _ => true) held m3 2 [c3] = some y30 from g30)
   obtain ⟨lo, e31, _, g_lo⟩ := DataW.trod_int Tryz.underlying2 (show DataW.trod enc Tryz.prog w base (fun _ => true) held m3 2 [c4] = some y31 from g31)
   obtain ⟨el, e4, _, g_el⟩ := DataW.trod_int Tryz.underlying2 (show DataW.trod enc Tryz.prog w base (fun _ => true) held n 2 [c5] = some z4 from h4)
   obtain ⟨ra, e5, _, g_ra⟩ := DataW.trod_int Tryz.underlying2 (show DataW.trod enc Tryz.prog w base (fun _ => true) held n 2 [c6] = some z5 from h5)
   obtain rfl : c0 = .string id := by simpa using e0
   obtain rfl : c1 = .string rg := by simpa using e1
   obtain rfl : c2 = .int .u8 kd := by simpa using e2
   obtain rfl : c3 = .int .i64 la := by simpa using e30
   obtain rfl : c4 = .int .i64 lo := by simpa using e31
   obtain rfl : c5 = .int .i64 el := by simpa using e4
   obtain rfl : c6 = .int .i64 ra := by simpa using e5
   have u_kd : 0 ≤ kd ∧ kd < 256 := u8_bd g_kd
   refine ⟨⟨bl id, bl rg, kd.toNat, la, lo, el, ra⟩, ?_, ⟨w_id, w_rg, by show kd.toNat < 256; omega⟩, i64_bd g_la, i64_bd g_lo, i64_bd g_el, i64_bd g_ra⟩
   unfold fxc
   rw [sb_bl, sb_bl, show ((kd.toNat : Nat) : Int) = kd by omega]
set_option maxRecDepth 100000 in
theorem open_headI {fuel : Nat} {cs : List Value} {x : DataW H × List MemPlace} (h : DataW.trod enc Tryz.prog w base (fun _ => true) held fuel 25 cs = some x) : ∃ h : ImHd, cs = hdD h ∧ h.nm.length ≤ maxLen ∧ HdI h := by
 obtain ⟨ys, n, _, _, hl, hyl, hf⟩ := DataW.trod_struct Tryz.underlying25 h
 rw [db_cApiHeader] at hl
 match cs, hl with
 | [c0, c1, c2, c3, c4, c5], _ =>
  have h0 : DataW.trod enc Tryz.prog w base (fun _ => true) held n 9 (([c0, c1, c2, c3, c4, c5].drop 0).take (Tryz.prog.cellsOf 9)) = ys[0]? := hf 0 _ rfl
  rw [db_cString] at h0
  have h1 : DataW.trod enc Tryz.prog w base (fun _ => true) held n 2 (([c0, c1, c2, c3, c4, c5].drop 1).take (Tryz.prog.cellsOf 2)) = ys[1]? := hf 1 _ rfl
  rw [db_cI64] at h1
  have h2 : DataW.trod enc Tryz.prog w base (fun _ => true) held n 2 (([c0, c1, c2, c3, c4, c5].drop 2).take (Tryz.prog.cellsOf 2)) = ys[2]? := hf 2 _ rfl
  rw [db_cI64] at h2
  have h3 : DataW.trod enc Tryz.prog w base (fun _ => true) held n 2 (([c0, c1, c2, c3, c4, c5].drop 3).take (Tryz.prog.cellsOf 2)) = ys[3]? := hf 3 _ rfl
  rw [db_cI64] at h3
  have h4 : DataW.trod enc Tryz.prog w base (fun _ => true) held n 23 (([c0, c1, c2, c3, c4, c5].drop 4).take (Tryz.prog.cellsOf 23)) = ys[4]? := hf 4 _ rfl
  rw [db_cPos] at h4
  match ys, hyl with
  | [z0, z1, z2, z3, z4], _ =>
   obtain ⟨nm, e0, _, w_nm⟩ := DataW.trod_string Tryz.underlying9 (show DataW.trod enc Tryz.prog w base (fun _ => true) held n 9 [c0] = some z0 from h0)
   obtain ⟨cy, e1, _, g_cy⟩ := DataW.trod_int Tryz.underlying2 (show DataW.trod enc Tryz.prog w base (fun _ => true) held n 2 [c1] = some z1 from h1)
   obtain ⟨fr, e2, _, g_fr⟩ := DataW.trod_int Tryz.underlying2 (show DataW.trod enc Tryz.prog w base (fun _ => true) held n 2 [c2] = some z2 from h2)
   obtain ⟨tu, e3, _, g_tu⟩ := DataW.trod_int Tryz.underlying2 (show DataW.trod enc Tryz.prog w base (fun _ => true) held n 2 [c3] = some z3 from h3)
   obtain ⟨vs4, m4, _, _, _, hvl4, hg4⟩ := DataW.trod_struct Tryz.underlying23 (show DataW.trod enc Tryz.prog w base (fun _ => true) held n 23 [c4, c5] = some z4 from h4)
   have g40 : DataW.trod enc Tryz.prog w base (fun _ => true) held m4 2 (([c4, c5].drop 0).take (Tryz.prog.cellsOf 2)) = vs4[0]? := hg4 0 _ rfl
   have g41 : DataW.trod enc Tryz.prog w base (fun _ => true) held m4 2 (([c4, c5].drop 1).take (Tryz.prog.cellsOf 2)) = vs4[1]? := hg4 1 _ rfl
   rw [db_cI64] at g40 g41
   obtain ⟨y40, y41, hy4⟩ : ∃ a b, vs4 = [a, b] := by
    match vs4, hvl4 with
    | [a, b], _ => exact ⟨a, b, rfl⟩
   rw [hy4] at g40 g41
   obtain ⟨la, e40, _, g_la⟩ := DataW.trod_int Tryz.underlying2 (show DataW.trod enc Tryz.prog w base (fun _ => true) held m4 2 [c4] = some y40 from g40)
   obtain ⟨lo, e41, _, g_lo⟩ := DataW.trod_int Tryz.underlying2 (show DataW.trod enc Tryz.prog w base (fun _ => true) held m4 2 [c5] = some y41 from g41)
   obtain rfl : c0 = .string nm := by simpa using e0
   obtain rfl : c1 = .int .i64 cy := by simpa using e1
   obtain rfl : c2 = .int .i64 fr := by simpa using e2
   obtain rfl : c3 = .int .i64 tu := by simpa using e3
   obtain rfl : c4 = .int .i64 la := by simpa using e40
   obtain rfl : c5 = .int .i64 lo := by simpa using e41
   refine ⟨⟨bl nm, cy, fr, tu, la, lo⟩, ?_, w_nm, i64_bd g_cy, i64_bd g_fr, i64_bd g_tu, i64_bd g_la, i64_bd g_lo⟩
   unfold hdD
   simp only [sb_bl]
theorem open_fixT {fuel : Nat} {cs : List Value} {x : DataW H × List MemPlace} (h : DataW.trod enc Tryz.prog w base (fun _ => true) held fuel 38 cs = some x) :
  ∃ (f : Fx) (r : List (DataW H)), cs = fxc f ∧ (FxOk f ∧ FxI f) ∧ x.1 = .agg (.lit (.string f.id) :: .lit (.string f.rg) :: r) := by
 obtain ⟨f, r, e1, hok, hx⟩ := open_fixS h
 obtain ⟨f', e2, _, hi⟩ := open_fixI h
 refine ⟨f, r, e1, ⟨hok, ?_⟩, hx⟩
 rw [e1] at e2
 unfold fxc at e2
 simp only [List.cons.injEq, Value.int.injEq, true_and, and_true] at e2
 obtain ⟨_, _, _, a1, a2, a3, a4⟩ := e2
 unfold FxI at hi ⊢
 rw [a1, a2, a3, a4]
 exact hi
theorem open_fixesT {fuel : Nat} {v : Value} {x : DataW H × List MemPlace} (h : DataW.trod enc Tryz.prog w base (fun _ => true) held fuel 26 [v] = some x) :
  ∃ l, FxsD w v l ∧ FixDat l x.1 ∧ ∀ f ∈ l, FxI f := by
 rcases open_slice Tryz.underlying26 h with ⟨hcs, _⟩ | ⟨a, len, cap, m, n, D, Pl, hcs, hb, hl, hm, hmm, hx, hi⟩
 ·obtain rfl : v = .slice none 0 0 := by simpa using hcs
  exact ⟨[], ⟨Rd.nil w 7, by simp⟩, .inl rfl, by simp⟩
 ·obtain rfl : v = .slice (some a) len cap := by simpa using hcs
  obtain rfl : m = cap := hmm
  obtain ⟨l, rfl, hp⟩ := list_of (P := fun i (p : Fx) => (∀ j, j < 7 → w.cell? ((a.add (i * 7)).add j) = (fxc p)[j]?) ∧ (FxOk p ∧ FxI p) ∧ ∃ r : List (DataW H), D i = .agg (.lit (.string p.id) :: .lit (.string p.rg) :: r)) len (fun i hil => by
   obtain ⟨cs', hc, ht'⟩ := hi i (by omega)
   rw [db_cApiFix] at hc
   obtain ⟨_, hcl, hat⟩ := World.cells?_some hc
   obtain ⟨f, r, rfl, hok, hD⟩ := open_fixT ht'
   exact ⟨f, hat, hok, r, hD⟩)
  refine ⟨l, ⟨?_, fun p hpm => ?_⟩, .inr ⟨_, _, by rw [hx], by rw [List.length_map, List.length_range], fun i hil => ?_⟩, fun p hpm => ?_⟩
  ·have h2 := rdK_new (w := w) (a := a) (cap := m) (k := 7) (l.map fxc) (by intro c hc; rw [List.mem_map] at hc; obtain ⟨p, _, rfl⟩ := hc; rfl) (by decide) (by rw [List.length_map]; exact hl) hm (fun i hi2 j hj => by
    rw [List.length_map] at hi2
    rw [List.getElem_map]
    exact (hp i hi2).1 j hj)
   rw [List.length_map] at h2
   exact h2
  ·obtain ⟨i, hi2, rfl⟩ := List.getElem_of_mem hpm
   exact (hp i hi2).2.1.1
  ·obtain ⟨_, _, r, hD⟩ := hp i hil
   exact ⟨r, by rw [List.getElem?_map, List.getElem?_range hil, ← hD]; rfl⟩
  ·obtain ⟨i, hi2, rfl⟩ := List.getElem_of_mem hpm
   exact (hp i hi2).2.1.2
set_option maxRecDepth 100000 in
theorem open_dbT {fuel : Nat} {cs : List Value} {x : DataW H × List MemPlace} (h : DataW.trod enc Tryz.prog w base (fun _ => true) held fuel 30 cs = some x) :
  ∃ (D : DbD) (f a p : Value) (d0 d1 d2 d3 : DataW H), cs = dbC D.hd f a p ∧ DbV w f a p D ∧ x.1 = .agg [d0, d1, d2, d3] ∧ FixDat D.fx d1 ∧ DbI D := by
 obtain ⟨ys, n, _, hx, hl, hyl, hf⟩ := DataW.trod_struct Tryz.underlying30 h
 rw [db_cApiDb] at hl
 match cs, hl with
 | [c0, c1, c2, c3, c4, c5, f, a, p], _ =>
 have h0 : DataW.trod enc Tryz.prog w base (fun _ => true) held n 25 (([c0, c1, c2, c3, c4, c5, f, a, p].drop 0).take (Tryz.prog.cellsOf 25)) = ys[0]? := hf 0 _ rfl
 rw [db_cApiHeader] at h0
 have h1 : DataW.trod enc Tryz.prog w base (fun _ => true) held n 26 (([c0, c1, c2, c3, c4, c5, f, a, p].drop 6).take (Tryz.prog.cellsOf 26)) = ys[1]? := hf 1 _ rfl
 rw [db_cSlApiFix] at h1
 have h2 : DataW.trod enc Tryz.prog w base (fun _ => true) held n 27 (([c0, c1, c2, c3, c4, c5, f, a, p].drop 7).take (Tryz.prog.cellsOf 27)) = ys[2]? := hf 2 _ rfl
 rw [db_cSlApiAirway] at h2
 have h3 : DataW.trod enc Tryz.prog w base (fun _ => true) held n 28 (([c0, c1, c2, c3, c4, c5, f, a, p].drop 8).take (Tryz.prog.cellsOf 28)) = ys[3]? := hf 3 _ rfl
 rw [db_cSlApiProcedure] at h3
 match ys, hyl with
 | [z0, z1, z2, z3], _ =>
  obtain ⟨hd, e0, hn, hhi⟩ := open_headI (show DataW.trod enc Tryz.prog w base (fun _ => true) held n 25 [c0, c1, c2, c3, c4, c5] = some z0 from h0)
  obtain ⟨l, hl2, hd2, hfi⟩ := open_fixesT (show DataW.trod enc Tryz.prog w base (fun _ => true) held n 26 [f] = some z1 from h1)
  obtain ⟨aw, haw, hai⟩ := open_airsI (show DataW.trod enc Tryz.prog w base (fun _ => true) held n 27 [a] = some z2 from h2)
  obtain ⟨pr, hpr, hpi⟩ := open_procsI (show DataW.trod enc Tryz.prog w base (fun _ => true) held n 28 [p] = some z3 from h3)
  have e1 := congrArg (fun q => q ++ [f, a, p]) e0
  exact ⟨⟨hd, l, aw, pr⟩, f, a, p, z0.1, z1.1, z2.1, z3.1, by simpa [hdD, dbC] using e1, ⟨hn, hl2, haw, hpr⟩, by rw [hx]; rfl, hd2, hhi, hfi, hai, hpi⟩
end
end Go.Proofs.YtlhniiakacbbeaaGreatDoor
