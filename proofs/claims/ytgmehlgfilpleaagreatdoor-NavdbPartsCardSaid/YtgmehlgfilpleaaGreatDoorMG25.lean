/-
  Several texts as one.
-/
import Derived.Test.YtgmehlgfilpleaaGreatDoorCkP
import Derived.Test.YtgmehlgfilpleaaGreatDoorNwK
import Derived.Test.YtgmehlgfilpleaaGreatDoorMG14
import Derived.Test.YtgmehlgfilpleaaGreatDoorMG11
import Derived.Test.YtgmehlgfilpleaaGreatDoorMG10
import Derived.Test.YtgmehlgfilpleaaGreatDoorMG15
namespace Go.Proofs.YtgmehlgfilpleaaGreatDoor
open Go.RowKit Go.Lib Go.Sort
set_option linter.unusedVariables false
set_option linter.unusedSimpArgs false
theorem Rd.of_bx4 {w : World} {g : Nat} {a b c d : Value} {t : TypeId} (h : Bx g #[a, b, c, d] t w) : Rd w 1 (.slice (some ⟨g, 0, none⟩) 4 4) 4 [a, b, c, d] :=
  ⟨rfl, some ⟨g, 0, none⟩, 4, rfl, Nat.le_refl _, by unfold maxLen; omega, fun _ => ⟨g, 0, rfl, h.lt, fun j u hu => by rw [Nat.zero_add]; exact h.cell j (by simpa using hu)⟩⟩
theorem isBld_below {T e : TypeId} {B b : Nat} {bs : List Value} {w w' : World} (h : Lib.IsBuilder T e B b bs w) (hb : Below w.heap.size w w') : Lib.IsBuilder T e B b bs w' := by
  have one : ∀ p, Lib.BuilderAt T e B b p bs w → Lib.BuilderAt T e B b p bs w' := by
    rintro p ⟨h1, v, h2, h3, h4⟩
    exact ⟨h1, v, (hb.block b (heap_lt h2)).trans h2, own_below h3 hb, h4⟩
  rcases h with h | h
  · exact .inl (one _ h)
  · exact .inr (one _ h)
theorem bytes_str (s : ByteArray) : Lib.strCells s = Lib.byteCells (bl s) := rfl
theorem bytes_len (a : List UInt8) : (Lib.byteCells a).length = a.length := by unfold Lib.byteCells; rw [List.length_map]
set_option maxRecDepth 100000 in
set_option maxHeartbeats 4000000 in
theorem tline_any (v : Value) (ts : List (List UInt8)) (B b : Nat) (bs : List UInt8) (w : World) (h : Rd w 1 v ts.length (scells ts)) (hb : Lib.IsBuilder 160 5 B b (Lib.byteCells bs) w) (hBw : B ≤ w.heap.size) (hn : ts.length ≤ 1048576) (hsz : bs.length + (joinL ts).length + 1 ≤ 1000000000) :
    Calls Tryz.prog 101 #[v, .pointer (some ⟨b, 0, none⟩)] w fun e w' => e = .returned (.tuple #[]) ∧ Lib.IsBuilder 160 5 B b (Lib.byteCells (bs ++ (joinL ts ++ [10]))) w' ∧ Below B w w' := by
  have HB := Lib.hid hb
  clear hb
  go_enter Tryz.func101, Tryz.ntmps101
  go_wp2_with fail
  refine (join_call v ts _ h (by omega) (by omega)).mono ?_
  rintro e w1 ⟨t, rfl, ht, hb1⟩
  have hts : t.size = (joinL ts).length := by rw [← ht.out]; rfl
  have hsz1 : B ≤ w1.heap.size := by have := hb1.size; omega
  have HB1 := Lib.hid (isBld_below HB.out hb1)
  have D1 := Lib.hid (hb1.mono hBw)
  clear hb1
  go_wp2_with fail
  refine (Tryz.Builder_WriteString B b _ t _ HB1.out (by rw [bytes_len]; omega) hsz1).mono ?_
  rintro e w2 ⟨rfl, hb2, hbl2⟩
  have D2 := Lib.hid (D1.out.trans hbl2)
  have hsz2 : B ≤ w2.heap.size := by have := hbl2.size; omega
  have HB2 := Lib.hid hb2
  clear hb2 hbl2
  go_wp2_with fail
  refine (Tryz.Builder_WriteByte B b _ 10 _ (.inr HB2.out) (by rw [List.length_append, bytes_len, bytes_str, bytes_len, bl_len]; omega) hsz2).mono ?_
  rintro e w3 ⟨rfl, hb3, hbl3⟩
  have HB3 := Lib.hid hb3
  have D3Z := Lib.hid (D2.out.trans hbl3)
  clear hb3 hbl3
  go_wp2
  go_end0
  refine ⟨rfl, ?_, D3Z.out⟩
  have h := HB3.out
  rw [bytes_str, ht.out, List.append_assoc] at h
  rw [byteCells_app, byteCells_app]
  exact .inr h
/-- the header's text -/
def hdrT : List UInt8 := joinL [[68, 65, 84, 65, 66, 65, 83, 69], [87, 69, 83, 84], cyc26, posOut 16560000 (-43200000)] ++ [10]
def db26 : DbD := ⟨⟨[87, 69, 83, 84], 2612, 9826, 9854, 16560000, -43200000⟩, [], [], []⟩
theorem check_26 (w : World) (hT : LegT w) : Calls Tryz.prog 10 #[.agg (dbH (.slice none 0 0))] w fun e w' => e = .returned (.int .i64 0) ∧ Below w.heap.size w w' := by
  have h := dbCheck_any db26 _ _ _ w hT ⟨by decide, ⟨Rd.nil w 7, fun f h => by cases h⟩, ⟨[], rfl, Rd.nil w 2, fun x h => by cases h⟩, ⟨[], rfl, Rd.nil w 4, fun x h => by cases h⟩⟩ ⟨fun f h => (by cases h), fun f h => (by cases h)⟩
  rw [show dbE db26 = 0 by decide +kernel, show (dbC db26.hd (.slice none 0 0) (.slice none 0 0) (.slice none 0 0)).toArray = dbH (.slice none 0 0) by rfl] at h
  exact h
set_option maxRecDepth 100000 in
set_option maxHeartbeats 8000000 in
theorem ntext_ex (w : World) (hT : LegT w) :
    Calls Tryz.prog 37 #[.agg (dbH (.slice none 0 0))] w fun e w' => e = .returned (.tuple #[.string (sb hdrT), .int .i64 0]) ∧ Below w.heap.size w w' := by
  obtain ⟨w0, hw0⟩ : ∃ W, w.alloc (.cells (dbH (.slice none 0 0)) 30) = W := ⟨_, rfl⟩
  have B0 : Hid (Below w.heap.size w w0) := by rw [← hw0]; exact (Below.refl _ _).alloc (Nat.le_refl _) _
  have X0 : Hid (Bx w.heap.size (dbH (.slice none 0 0)) 30 w0) := by rw [← hw0]; exact Bx.last w _ _
  obtain ⟨⟨x0, x1, x2, x3, x4, x5, x6, x7, x8⟩, _⟩ := Bx.cells9 X0.out
  have xl := Bx.lt X0.out
  have hck := check_26
  have hcy := cycleText_26
  have hlen : ([] : List UInt8).length + (joinL [[68, 65, 84, 65, 66, 65, 83, 69], [87, 69, 83, 84], cyc26, posOut 16560000 (-43200000)]).length + 1 ≤ 1000000000 := of_decide_eq_true (by kernel_rfl)
  unfold dbH at hw0 hck
  have HW0 := Lib.hid hw0
  clear hw0
  unfold dbH
  go_enter Tryz.func37, Tryz.ntmps37
  go_wp2_with fail
  rw [HW0.out]
  go_wp2_with fail
  refine (hck _ (hT.below B0.out)).mono ?_
  rintro e w1 ⟨rfl, hb1⟩
  have B1 := Lib.hid (Below.then_ B0.out hb1)
  have X1 := Lib.hid (X0.out.via hb1)
  clear x0 x1 x2 x3 x4 x5 x6 x7 x8 xl hb1 B0 X0 hck HW0
  obtain ⟨b, hbq⟩ : ∃ b, w1.heap.size = b := ⟨_, rfl⟩
  obtain ⟨w2, hw2⟩ : ∃ W, w1.alloc (.cells #[.pointer none, .slice none 0 0] 160) = W := ⟨_, rfl⟩
  have S2 : Hid (Lib.IsBuilder 160 5 b b (Lib.byteCells []) w2) := by
    unfold Hid; rw [← hbq, ← hw2]; exact Lib.fresh_isBuilder _ _ w1
  have hb2 : Below w1.heap.size w1 w2 := by rw [← hw2]; exact (Below.refl _ _).alloc (Nat.le_refl _) _
  have B2 := Lib.hid (Below.then_ B1.out hb2)
  have X2 := Lib.hid (X1.out.via hb2)
  have L2 : Hid (w.heap.size < b ∧ b ≤ w2.heap.size) := ⟨by rw [← hbq]; exact X1.out.lt, by rw [← hbq]; exact hb2.size⟩
  obtain ⟨⟨x0, x1, x2, x3, x4, x5, x6, x7, x8⟩, _⟩ := Bx.cells9 X2.out
  have xl := Bx.lt X2.out
  have HW2 := Lib.hid hw2
  have HBQ := Lib.hid hbq
  clear hb2 hw2 hbq B1 X1
  go_upto_region 5 with fail
  rw [HW2.out, HBQ.out]
  go_wp2_with fail
  refine (hcy _).mono ?_
  rintro e w3 ⟨rfl, hb3⟩
  have S3 := Lib.hid (isBld_below S2.out hb3)
  have B3 := Lib.hid (Below.then_ B2.out hb3)
  have X3 := Lib.hid (X2.out.via hb3)
  have L3 : Hid (w.heap.size < b ∧ b ≤ w3.heap.size) := ⟨L2.out.1, Nat.le_trans L2.out.2 hb3.size⟩
  clear x0 x1 x2 x3 x4 x5 x6 x7 x8 xl hb3 HW2 S2 B2 X2 L2 HBQ hcy
  obtain ⟨⟨x0, x1, x2, x3, x4, x5, x6, x7, x8⟩, _⟩ := Bx.cells9 X3.out
  have xl := Bx.lt X3.out
  go_wp2_with fail
  refine (posText_any 16560000 (-43200000) _).mono ?_
  rintro e w4 ⟨p, rfl, hp, hb4⟩
  have S4 := Lib.hid (isBld_below S3.out hb4)
  have B4 := Lib.hid (Below.then_ B3.out hb4)
  have X4 := Lib.hid (X3.out.via hb4)
  have L4 : Hid (w.heap.size < b ∧ b ≤ w4.heap.size) := ⟨L3.out.1, Nat.le_trans L3.out.2 hb4.size⟩
  have hpe : posErr 16560000 (-43200000) = 0 := by kernel_rfl
  rw [hpe]
  clear x0 x1 x2 x3 x4 x5 x6 x7 x8 xl hb4 S3 B3 X3 L3 hpe
  obtain ⟨⟨x0, x1, x2, x3, x4, x5, x6, x7, x8⟩, _⟩ := Bx.cells9 X4.out
  have xl := Bx.lt X4.out
  have hps : p = sb (posOut 16560000 (-43200000)) := by rw [← hp.out]; rfl
  subst hps
  obtain ⟨w5, hw5⟩ : ∃ W, w4.alloc (.cells #[.string ⟨#[68, 65, 84, 65, 66, 65, 83, 69]⟩, .string ⟨#[87, 69, 83, 84]⟩, .string (sb cyc26), .string (sb (posOut 16560000 (-43200000)))] 9) = W := ⟨_, rfl⟩
  have hb5 : Below w4.heap.size w4 w5 := by rw [← hw5]; exact (Below.refl _ _).alloc (Nat.le_refl _) _
  have R5 : Hid (Rd w5 1 (.slice (some ⟨w4.heap.size, 0, none⟩) 4 4) 4 (scells [[68, 65, 84, 65, 66, 65, 83, 69], [87, 69, 83, 84], cyc26, posOut 16560000 (-43200000)])) := by
    rw [← hw5]; exact Rd.of_bx4 (Bx.last w4 _ _)
  have S5 := Lib.hid (isBld_below S4.out hb5)
  have B5 := Lib.hid (Below.then_ B4.out hb5)
  have X5 := Lib.hid (X4.out.via hb5)
  have L5 : Hid (w.heap.size < b ∧ b ≤ w5.heap.size) := ⟨L4.out.1, Nat.le_trans L4.out.2 hb5.size⟩
  have HW5 := Lib.hid hw5
  clear hb5 hw5 S4 B4 X4 L4 hp
  go_wp2_with fail
  rw [HW5.out]
  refine (tline_any _ [[68, 65, 84, 65, 66, 65, 83, 69], [87, 69, 83, 84], cyc26, posOut 16560000 (-43200000)] b b [] _ R5.out S5.out L5.out.2 (by simp) hlen).mono ?_
  rintro e w6 ⟨rfl, hs6, hb6⟩
  have S6 := Lib.hid hs6
  have B6 := Lib.hid (B5.out.trans (hb6.mono (by have := L5.out.1; omega)))
  have X6 : Hid (Bx w.heap.size (dbH (.slice none 0 0)) 30 w6) := (hb6.block _ L5.out.1).trans X5.out
  have L6 : Hid (b ≤ w6.heap.size) := Nat.le_trans L5.out.2 hb6.size
  have L7 : Hid (w.heap.size ≤ b) := Nat.le_of_lt L5.out.1
  rw [List.nil_append] at S6
  clear x0 x1 x2 x3 x4 x5 x6 x7 x8 xl hs6 hb6 S5 B5 X5 L5 R5 HW5
  obtain ⟨⟨x0, x1, x2, x3, x4, x5, x6, x7, x8⟩, _⟩ := Bx.cells9 X6.out
  have xl := Bx.lt X6.out
  go_wp2_with fail
  go_loopw [56] (fun iv wr => iv = .int .i64 0 ∧ wr = w6) (fun iv _ => 0)
  case atStart => exact ⟨rfl, rfl⟩
  case round =>
    obtain ⟨rfl, rfl⟩ := hrel
    go_wp2
    go_loopw [73] (fun iv wx => iv = .int .i64 0 ∧ wx = wr) (fun iv _ => 0)
    case atStart => exact ⟨rfl, rfl⟩
    case round =>
      obtain ⟨rfl, rfl⟩ := hrel
      go_wp2
      go_loopw [88] (fun iv wx => iv = .int .i64 0 ∧ wx = wr) (fun iv _ => 0)
      case atStart => exact ⟨rfl, rfl⟩
      case round =>
        obtain ⟨rfl, rfl⟩ := hrel
        go_wp2_with fail
        refine (Tryz.Builder_String_any b b hdrT wr S6.out L6.out).mono ?_
        rintro e w7 ⟨rfl, hb7⟩
        have B7 := Lib.hid (B6.out.trans (hb7.mono L7.out))
        clear x0 x1 x2 x3 x4 x5 x6 x7 x8 xl hb7
        go_wp2
        go_ret2
        exact ⟨rfl, B7.out⟩
def hdrWs : List (List UInt8) := [[68, 65, 84, 65, 66, 65, 83, 69], [87, 69, 83, 84], cyc26, pos46]
def air1 : List (List UInt8) := [[65, 73, 82, 87, 65, 89], [86, 49]]
def air2 : List (List UInt8) := [[86, 73, 65], [65, 47, 75, 49], [53, 48, 48, 48, 43], [66, 79, 84, 72]]
def air3 : List (List UInt8) := [[86, 73, 65], [66, 47, 75, 49]]
def exS : ByteArray := ⟨#[68, 65, 84, 65, 66, 65, 83, 69, 32, 87, 69, 83, 84, 32, 50, 54, 49, 50, 32, 78, 52, 54, 48, 48, 48, 48, 48, 48, 87, 49, 50, 48, 48, 48, 48, 48, 48, 48, 10]⟩
def exA : ByteArray := ⟨#[65, 73, 82, 87, 65, 89, 32, 86, 49, 10, 86, 73, 65, 32, 65, 47, 75, 49, 32, 53, 48, 48, 48, 43, 32, 66, 79, 84, 72, 10, 86, 73, 65, 32, 66, 47, 75, 49, 10]⟩
theorem hdr_ok : WsOk hdrWs := ⟨by decide, by decide +kernel, by decide +kernel⟩
theorem air1_ok : WsOk air1 := ⟨by decide, by decide +kernel, by decide +kernel⟩
theorem air2_ok : WsOk air2 := ⟨by decide, by decide +kernel, by decide +kernel⟩
theorem air3_ok : WsOk air3 := ⟨by decide, by decide +kernel, by decide +kernel⟩
theorem exS_join : bl exS = joinW [hdrWs] := by decide +kernel
theorem exA_join : bl (exS ++ exA) = joinW [hdrWs, air1, air2, air3] := by decide +kernel
theorem hdr_ln : ∀ n : Nat, lnOf (1, colsW 0 hdrWs) = ((1, hdF) : Ln) := fun _ => by decide +kernel
def rest2 : List Ln := [lnOf (2, colsW 0 air1), lnOf (3, colsW 0 air2), lnOf (4, colsW 0 air3)]
theorem exS_recs : (readRecs (bl exS)).map lnOf = (1, hdF) :: [] ∧ readDgs (bl exS) = [] := by
  have h := read_joinW (W := [hdrWs]) (fun ws h => by simp at h; subst h; exact hdr_ok) (by decide)
  rw [exS_join, h.1]
  exact ⟨by show [lnOf (1, colsW 0 hdrWs)] = _; rw [hdr_ln 0], h.2⟩
theorem exA_recs : (readRecs (bl (exS ++ exA))).map lnOf = (1, hdF) :: rest2 ∧ readDgs (bl (exS ++ exA)) = [] := by
  have h := read_joinW (W := [hdrWs, air1, air2, air3]) (fun ws h => by simp at h; rcases h with rfl | rfl | rfl | rfl; exact hdr_ok; exact air1_ok; exact air2_ok; exact air3_ok) (by decide)
  rw [exA_join, h.1]
  exact ⟨by show lnOf (1, colsW 0 hdrWs) :: rest2 = _; rw [hdr_ln 0], h.2⟩
theorem rest2_ok : SecOk cp0.head rest2 :=
  ⟨.air (by decide +kernel) (by decide +kernel), .via (by decide +kernel) (by decide +kernel), .via (by decide +kernel) (by decide +kernel), trivial⟩
theorem rest2_all : (secGo cp0.head rest2).all = [takeEl (lnOf (2, colsW 0 air1)) (viasL [lnOf (3, colsW 0 air2), lnOf (4, colsW 0 air3)])] := by
  unfold rest2
  rw [secGo, step_air (by decide +kernel), secGo, step_via (by decide +kernel), secGo, step_via (by decide +kernel), secGo]
  rfl
theorem rest2_el : ElOk (takeEl (lnOf (2, colsW 0 air1)) (viasL [lnOf (3, colsW 0 air2), lnOf (4, colsW 0 air3)])) :=
  ⟨rfl, by decide +kernel, by decide +kernel, by decide +kernel⟩
theorem rest2_bad : (thGo (fixesOf (secGo cp0.head rest2).all) 0 0 [] [] (secGo cp0.head rest2) (secGo cp0.head rest2).all).bad = [(3, 1, 6), (4, 1, 6)] := by decide +kernel
theorem compile_hdr (w : World) (E : Env w) :
    Calls Tryz.prog 39 #[.string exS] w fun e w' => e = .returned (.tuple #[.agg (dbH (.slice none 0 0)), .slice none 0 0]) ∧ Below w.heap.size w w' := by
  refine (compile_any exS w E [] (by decide +kernel) exS_recs.1 exS_recs.2 (by decide) trivial (fun p h => by cases h) (fun _ => rfl)).mono ?_
  rintro e w' (⟨h, _⟩ | ⟨_, rfl, hb⟩)
  · exact absurd rfl h
  · exact ⟨rfl, hb⟩
theorem compile_air (w : World) (E : Env w) :
    Calls Tryz.prog 39 #[.string (exS ++ exA)] w fun e w' => ∃ v, e = .returned (.tuple #[.agg dbZ, v]) ∧ Rd w' 3 v 2 [.int .i64 3, .int .i64 1, .int .i64 6, .int .i64 4, .int .i64 1, .int .i64 6] ∧ Below w.heap.size w w' := by
  refine (compile_any (exS ++ exA) w E rest2 (by decide +kernel) exA_recs.1 exA_recs.2 (by decide) rest2_ok (fun p h => by rw [rest2_all] at h; simp at h; subst h; exact rest2_el) (fun h => by rw [rest2_bad] at h; cases h)).mono ?_
  rw [show CompPost _ w = _ from rfl]
  rintro e w' (⟨h, v, rfl, hr, hb⟩ | ⟨h, _⟩)
  · rw [rest2_bad] at hr
    exact ⟨v, rfl, hr, hb⟩
  · rw [rest2_bad] at h; cases h
theorem hdrT_eq : sb hdrT = exS := by decide +kernel
set_option maxRecDepth 100000 in
set_option maxHeartbeats 8000000 in
theorem awake18_any (w : World) (E : Env w) (hT : LegT w) :
    Calls Tryz.prog 8 #[] w fun e w' => e = .returned (.bool true) ∧ Below w.heap.size w w' := by
  have hc1 := compile_hdr w E
  have hc2 := fun W h => compile_air W h
  have htx := ntext_ex
  rw [hdrT_eq] at htx
  unfold exS exA dbZ at hc2
  unfold exS dbH at htx
  unfold exS dbH at hc1
  dsimp only at hc2 htx hc1
  have HC2 := Lib.hid hc2
  have HTX := Lib.hid htx
  clear hc2 htx
  go_enter Tryz.func8, Tryz.ntmps8
  go_wp2_with fail
  refine hc1.mono ?_
  rintro e w1 ⟨rfl, hb1⟩
  clear hc1
  obtain ⟨w2, hw2⟩ : ∃ W, w1.alloc (.cells (dbH (.slice none 0 0)) 30) = W := ⟨_, rfl⟩
  have hb2 : Below w1.heap.size w1 w2 := by rw [← hw2]; exact (Below.refl _ _).alloc (Nat.le_refl _) _
  have B2 := Lib.hid (Below.then_ hb1 hb2)
  obtain ⟨q, hq⟩ : ∃ q, w1.heap.size = q := ⟨_, rfl⟩
  have X2 : Hid (Bx q (dbH (.slice none 0 0)) 30 w2) := by rw [← hw2, ← hq]; exact Bx.last w1 _ _
  unfold dbH at hw2
  have HW2 := Lib.hid hw2
  have HQ := Lib.hid hq
  obtain ⟨⟨x0, x1, x2, x3, x4, x5, x6, x7, x8⟩, _⟩ := Bx.cells9 X2.out
  have xl := Bx.lt X2.out
  clear hb1 hb2 hw2 hq
  go_upto_region 3 with fail
  rw [HW2.out, HQ.out]
  clear HW2 HQ
  go_wp2_with fail
  refine (HTX.out _ (hT.below B2.out)).mono ?_
  rintro e w3 ⟨rfl, hb3⟩
  have B3 := Lib.hid (Below.then_ B2.out hb3)
  have X3 := Lib.hid (X2.out.via hb3)
  clear x0 x1 x2 x3 x4 x5 x6 x7 x8 xl hb3 B2 X2 HTX
  go_wp2_with fail
  refine (HC2.out _ (E.below B3.out)).mono ?_
  rintro e w4 ⟨v2, rfl, hr4, hb4⟩
  have B4 := Lib.hid (Below.then_ B3.out hb4)
  have X4 := Lib.hid (X3.out.via hb4)
  clear hb4 B3 X3 HC2
  obtain ⟨w5, hw5⟩ : ∃ W, w4.alloc (.cells dbZ 30) = W := ⟨_, rfl⟩
  have hb5 : Below w4.heap.size w4 w5 := by rw [← hw5]; exact (Below.refl _ _).alloc (Nat.le_refl _) _
  have R5 := hr4.below hb5
  have B5 := Lib.hid (Below.then_ B4.out hb5)
  have X5 := Lib.hid (X4.out.via hb5)
  obtain ⟨_, A, c, rfl, hc, hm, hx⟩ := R5
  obtain ⟨g, o, rfl, hg, hcell⟩ := hx (by omega)
  have d0 := hcell 0 _ rfl
  have d1 := hcell 1 _ rfl
  have d2 := hcell 2 _ rfl
  have d3 := hcell 3 _ rfl
  have d4 := hcell 4 _ rfl
  have d5 := hcell 5 _ rfl
  rw [Nat.add_zero] at d0
  obtain ⟨⟨x0, x1, x2, x3, x4, x5, x6, x7, x8⟩, _⟩ := Bx.cells9 X5.out
  have xl := Bx.lt X5.out
  unfold dbZ at hw5
  have HW5 := Lib.hid hw5
  clear hr4 hb5 hw5 hcell hx B4 X4
  go_upto_region 5 with fail
  rw [HW5.out]
  clear HW5
  go_wp2
  go_ret
  exact ⟨rfl, B5.out⟩
end Go.Proofs.YtgmehlgfilpleaaGreatDoor
