/-
  Several texts as one.
-/
import Derived.Test.YtlhniiakacbbeaaGreatDoorMG06
import Derived.Test.YtlhniiakacbbeaaGreatDoorMG08
import Derived.Test.YtlhniiakacbbeaaGreatDoorImF
import Derived.Test.YtlhniiakacbbeaaGreatDoorNvZ
import Derived.Test.YtlhniiakacbbeaaGreatDoorImPS
namespace Go.Proofs.YtlhniiakacbbeaaGreatDoor
open Go.RowKit
set_option linter.unusedVariables false
set_option linter.unusedSimpArgs false
def exHd : ImHd := ⟨[87, 69, 83, 84], 2612, 9826, 9854, 16560000, -43200000⟩
def exB : List UInt8 := [70, 68, 66, 49] ++ ([1, 45, 0, 0, 0] ++ (([4, 87, 69, 83, 84] ++ numB [2612, 9826, 9854, 16560000, -43200000]) ++ ([2, 2, 0, 0, 0, 0, 0] ++ ([3, 2, 0, 0, 0, 0, 0] ++ [4, 2, 0, 0, 0, 0, 0]))))
theorem exB_len : exB.length = 75 := by decide +kernel
theorem exB_rd : rdF exB = some (exHd, [(1, 9, 45, 1), (2, 59, 2, 0), (3, 66, 2, 0), (4, 73, 2, 0)]) := by kernel_rfl
theorem ex_rd : rdRes (sealL exB) = (0, exHd, [(1, 9, 45, 1), (2, 59, 2, 0), (3, 66, 2, 0), (4, 73, 2, 0)]) := by
 have h := seal_ok exB
 have hl : (sealL exB).length = 79 := by unfold sealL; rw [List.length_append, exB_len]; rfl
 exact rdRes_some (by omega) h.1 (by rw [h.2]; exact exB_rd)
theorem ex_head : (sealL exB).take 9 = [70, 68, 66, 49, 1, 45, 0, 0, 0] := by
 unfold sealL
 rw [List.take_append_of_le_length (by rw [exB_len]; omega)]
 decide +kernel
def exDb : DbD := ⟨exHd, [], [], []⟩
theorem exDb_ok : dbE exDb = 0 := by decide +kernel
theorem exDb_img : dbB exDb = exB := by decide +kernel
theorem exDb_arr : (dbC exDb.hd (.slice none 0 0) (.slice none 0 0) (.slice none 0 0)).toArray = dbH (.slice none 0 0) := by rfl
theorem exDb_mem (w : World) : DbV w (.slice none 0 0) (.slice none 0 0) (.slice none 0 0) exDb :=
 ⟨by decide, ⟨Rd.nil w 7, fun f h => by cases h⟩, ⟨[], rfl, Rd.nil w 2, fun x h => by cases h⟩, ⟨[], rfl, Rd.nil w 4, fun x h => by cases h⟩⟩
theorem exDb_sz : SzD exDb := ⟨fun f h => (by cases h), fun f h => (by cases h)⟩
theorem checkZ (w : World) (hT : LegT w) : Calls Tryz.prog 10 #[.agg (dbH (.slice none 0 0))] w fun e w' => e = .returned (.int .i64 0) ∧ Below w.heap.size w w' := by
 have h := dbCheck_any exDb _ _ _ w hT (exDb_mem w) exDb_sz
 rw [exDb_ok, exDb_arr] at h
 exact h
theorem encodeZ (w : World) (hT : LegT w) : Calls Tryz.prog 20 #[.agg (dbH (.slice none 0 0))] w fun e w' => ∃ vp, e = .returned (.tuple #[vp, .int .i64 0]) ∧ BsNew (sealL exB) w vp w' := by
 have h := imEncode_any exDb _ _ _ w hT (exDb_mem w) exDb_sz (fun _ => by rw [exDb_img, exB_len]; omega)
 rw [exDb_ok, exDb_arr, exDb_img] at h
 refine h.mono ?_
 rintro e w' (⟨h0, _⟩ | ⟨_, h1⟩)
 ·exact absurd rfl h0
 ·exact h1
set_option maxRecDepth 100000 in
set_option maxHeartbeats 8000000 in
theorem decodeZ (v : Value) (w : World) (hT : LegT w) (h : BsV w v (sealL exB)) :
  Calls Tryz.prog 22 #[v] w fun e w' => e = .returned (.tuple #[.agg (dbH (.slice none 0 0)), .int .i64 0]) ∧ Below w.heap.size w w' := by
 obtain ⟨w0, hw0⟩ : ∃ W, w.alloc (.cells #[.string ⟨#[]⟩, .int .i64 0, .int .i64 0, .int .i64 0, .int .i64 0, .int .i64 0, .slice none 0 0, .slice none 0 0, .slice none 0 0] 30) = W := ⟨_, rfl⟩
 have hb0 : Below w.heap.size w w0 := by rw [← hw0]; exact (Below.refl _ _).alloc (Nat.le_refl _) _
 have B0 := Lib.hid hb0
 have X0 : Hid (Bx w.heap.size #[.string ⟨#[]⟩, .int .i64 0, .int .i64 0, .int .i64 0, .int .i64 0, .int .i64 0, .slice none 0 0, .slice none 0 0, .slice none 0 0] 30 w0) := by rw [← hw0]; exact Bx.last _ _ _
 have hl : (sealL exB).length = 79 := by unfold sealL; rw [List.length_append, exB_len]; rfl
 have hrd := imRead_any v (sealL exB) w0 (h.below hb0) (by rw [hl]; omega)
 have hrd2 : Calls Tryz.prog 71 #[v] w0 fun e w' => (∃ A n c, e = .returned (.tuple #[.agg (dbH (.slice none 0 0)), .slice A n c, .int .i64 0])) ∧ Below w0.heap.size w0 w' := hrd.mono (fun e w' hp => by
  obtain ⟨f, a, p, sv, nf, na, np, he, hr, ⟨_, _, _, hf⟩, ⟨_, _, _, ha⟩, ⟨_, _, _, hp⟩, hm, hb⟩ := hp
  rw [ex_rd] at he hr hm
  have hm2 := hm rfl
  simp at hm2
  obtain ⟨h1, h2, h3⟩ := hm2
  obtain ⟨As, cs, hs, _, _⟩ := hr.form
  rw [hf h1.symm, ha h2.symm, hp h3.symm, hs] at he
  exact ⟨⟨_, _, _, he⟩, hb⟩)
 obtain ⟨q, hq⟩ : ∃ q, w.heap.size = q := ⟨_, rfl⟩
 rw [hq] at X0
 have HQ := Lib.hid hq
 have HW0 := Lib.hid hw0
 obtain ⟨A, c, rfl, -, -, -⟩ := h
 clear hb0 hw0 hq hrd hl
 go_enter Tryz.func22, Tryz.ntmps22
 go_wp2_with fail
 rw [HW0.out, HQ.out]
 clear HW0
 refine hrd2.mono ?_
 rintro e w1 ⟨⟨As, ns, cs, rfl⟩, hb⟩
 have B1 := Lib.hid (Below.then_ B0.out hb)
 have X1 := Lib.hid (Bx.via hb X0.out)
 clear hrd2 hb B0 X0
 obtain ⟨w2, hw2⟩ : ∃ W, w1.alloc (.cells (dbH (.slice none 0 0)) 30) = W := ⟨_, rfl⟩
 have hb2 : Below w1.heap.size w1 w2 := by rw [← hw2]; exact (Below.refl _ _).alloc (Nat.le_refl _) _
 obtain ⟨q2, hq2⟩ : ∃ q, w1.heap.size = q := ⟨_, rfl⟩
 have D2 : Hid (Bx q2 (dbH (.slice none 0 0)) 30 w2) := by rw [← hw2, ← hq2]; exact Bx.last _ _ _
 have B2 := Lib.hid (Below.then_ B1.out hb2)
 have X2 := Lib.hid (Bx.via hb2 X1.out)
 have hck := checkZ w2 (hT.below B2.out)
 have HCK := Lib.hid hck
 unfold dbH at hw2 HCK ⊢
 have HW2 := Lib.hid hw2
 have HQ2 := Lib.hid hq2
 clear hck hw2 hq2 hb2 B1 X1
 go_upto_region 2 with fail
 rw [HW2.out, HQ2.out]
 clear HW2 HQ2
 obtain ⟨⟨x0, x1, x2, x3, x4, x5, x6, x7, x8⟩, _⟩ := Bx.cells9 D2.out
 have xl := Bx.lt D2.out
 go_wp2_with fail
 refine HCK.out.mono ?_
 rintro e w3 ⟨rfl, hb3⟩
 have D3 := Lib.hid (D2.out.via hb3)
 have B3 := Lib.hid (Below.then_ B2.out hb3)
 have XO := Lib.hid (X2.out.via hb3)
 clear HCK x0 x1 x2 x3 x4 x5 x6 x7 x8 xl D2 B2 X2 hb3
 have HCS : Hid (∀ j u, (dbH (.slice none 0 0)).toList[j]? = some u → w3.cell? ⟨q2, 0 + j, none⟩ = some u) := fun j u hu => by rw [Nat.zero_add]; exact D3.out.cell j (by simpa using hu)
 have FX : Bx q (dbH (.slice none 0 0)) 30 (w3.setRow q (dbH (.slice none 0 0))) := setRow_heap _ q _ (dbH (.slice none 0 0)) 30 (0, 0) XO.out
 have HPF : Below w.heap.size w (w3.setRow q (dbH (.slice none 0 0))) := row_below B3.out HQ.out
 obtain ⟨W9, hW9⟩ : ∃ W, w3.setRow q (dbH (.slice none 0 0)) = W := ⟨_, rfl⟩
 rw [hW9] at FX HPF
 have HW9 := Lib.hid hW9
 have HPG := Lib.hid HPF
 have FXH := Lib.hid FX
 clear FX HPF hW9
 go_wp2_with (first | (with_reducible refine wpList_load_wide rfl 30 (.tmp 4) rfl q2 0 rfl (dbH (.slice none 0 0)).toList 9 rfl (aggDB9 _) (sizeDB9 _) HCS.out ?_) | (refine wpList_plain rfl fun _ hK => wp_store_row 30 (.tmp 2) (.tmp 24) rfl q (dbH (.slice none 0 0)) rfl rfl 30 _ XO.out infoDB9 rfl (by simp [dbH, Value.oneCell']) (hK _ _ ?_)))
 rw [HW9.out]
 obtain ⟨⟨x0, x1, x2, x3, x4, x5, x6, x7, x8⟩, _⟩ := Bx.cells9 FXH.out
 refine bodyPost_ret (v := .tuple #[.agg (dbH (.slice none 0 0)), .int .i64 0]) (by simp [results, Tryz.results22, go_sem, dbH, x0, x1, x2, x3, x4, x5, x6, x7, x8]; try rfl) rfl ?_
 exact ⟨rfl, HPG.out⟩
def FormPost (bs : List UInt8) (w : World) (e : Ending) (w' : World) : Prop :=
 ∃ (f a p sv : Value), e = .returned (.tuple #[.agg (dbI (rdRes bs).2.1 f a p), sv, .int .i64 (rdRes bs).1]) ∧ Rd w' 4 sv (rdRes bs).2.2.length (seccells (rdRes bs).2.2) ∧ (∃ A n c, f = .slice A n c) ∧ (∃ A n c, a = .slice A n c) ∧ (∃ A n c, p = .slice A n c) ∧ Below w.heap.size w w'
theorem ImReadPost.form {bs : List UInt8} {w w' : World} {e : Ending} (h : ImReadPost bs w e w') : FormPost bs w e w' := by
 obtain ⟨f, a, p, sv, nf, na, np, he, hr, ⟨A1, c1, h1, _⟩, ⟨A2, c2, h2, _⟩, ⟨A3, c3, h3, _⟩, _, hb⟩ := h
 exact ⟨f, a, p, sv, he, hr, ⟨_, _, _, h1⟩, ⟨_, _, _, h2⟩, ⟨_, _, _, h3⟩, hb⟩
set_option maxRecDepth 100000 in
set_option maxHeartbeats 8000000 in
theorem imSections_any (v : Value) (bs : List UInt8) (w : World) (hc : Calls Tryz.prog 71 #[v] w (FormPost bs w)) :
  Calls Tryz.prog 63 #[v] w fun e w' => ∃ sv, e = .returned (.tuple #[sv, .int .i64 (rdRes bs).1]) ∧ Rd w' 4 sv (rdRes bs).2.2.length (seccells (rdRes bs).2.2) ∧ Below w.heap.size w w' := by
 obtain ⟨er, her⟩ : ∃ x, (rdRes bs).1 = x := ⟨_, rfl⟩
 unfold FormPost at hc
 rw [her] at hc ⊢
 obtain ⟨hd, hhd⟩ : ∃ x, (rdRes bs).2.1 = x := ⟨_, rfl⟩
 rw [hhd] at hc
 obtain ⟨l, hl⟩ : ∃ x, (rdRes bs).2.2 = x := ⟨_, rfl⟩
 rw [hl] at hc ⊢
 clear her hhd hl
 go_enter Tryz.func63, Tryz.ntmps63
 go_wp2_with fail
 refine hc.mono ?_
 rintro e w1 ⟨f, a, p, sv, rfl, hr, ⟨A1, n1, c1, rfl⟩, ⟨A2, n2, c2, rfl⟩, ⟨A3, n3, c3, rfl⟩, hb⟩
 obtain ⟨As, cs, hsv, hsc, hsm⟩ := hr.form
 have HR := Lib.hid hr
 have HB := Lib.hid hb
 rw [hsv] at HR ⊢
 clear hc hr hb hsv
 unfold dbI
 go_wp2
 go_ret2
 exact ⟨_, rfl, HR.out.below ((Below.refl _ _).alloc (Nat.le_refl _) _), Below.then_ HB.out ((Below.refl _ _).alloc (Nat.le_refl _) _)⟩
end Go.Proofs.YtlhniiakacbbeaaGreatDoor
namespace Go.Proofs.YtlhniiakacbbeaaGreatDoor
open Go.RowKit Go.Lib Go.Sort
set_option linter.unusedVariables false
set_option linter.unusedSimpArgs false
set_option maxRecDepth 100000 in
set_option maxHeartbeats 8000000 in
theorem same_ex (A1 A2 : Option Addr) (c1 c2 : Nat) (w : World) :
  Calls Tryz.prog 25 #[.agg (dbH (.slice A1 0 c1)), .agg (dbH (.slice A2 0 c2))] w fun e w' => e = .returned (.bool true) ∧ Below w.heap.size w w' := by
 obtain ⟨w1, hw1⟩ : ∃ W, (w.alloc (.cells (dbH (.slice A1 0 c1)) 30)).alloc (.cells (dbH (.slice A2 0 c2)) 30) = W := ⟨_, rfl⟩
 have hb1 : Below w.heap.size w w1 := by rw [← hw1]; exact ((Below.refl _ _).alloc (Nat.le_refl _) _).alloc (by simp) _
 obtain ⟨q, hq⟩ : ∃ q, w.heap.size = q := ⟨_, rfl⟩
 have Y1 : Bx (q + 1) (dbH (.slice A2 0 c2)) 30 w1 := by
  have h1 := Bx.last (w.alloc (.cells (dbH (.slice A1 0 c1)) 30)) (dbH (.slice A2 0 c2)) 30
  rw [hw1, World.size_alloc, hq] at h1
  exact h1
 have X1 : Bx q (dbH (.slice A1 0 c1)) 30 w1 := by
  have h1 := Bx.via ((Below.refl _ _).alloc (Nat.le_refl _) (.cells (dbH (.slice A2 0 c2)) 30)) (Bx.last w (dbH (.slice A1 0 c1)) 30)
  rw [hw1, hq] at h1
  exact h1
 have HB1 := Lib.hid hb1
 unfold dbH at hw1 ⊢
 have HW1 := Lib.hid hw1
 have HQ := Lib.hid hq
 have xl := X1.lt
 have yl := Y1.lt
 obtain ⟨⟨x0, x1, x2, x3, x4, x5, x6, x7, x8⟩, _⟩ := Bx.cells9 X1
 obtain ⟨⟨y0, y1, y2, y3, y4, y5, y6, y7, y8⟩, _⟩ := Bx.cells9 Y1
 clear hb1 hw1 hq X1 Y1
 go_enter Tryz.func25, Tryz.ntmps25
 go_upto_region 1 with fail
 rw [HW1.out, HQ.out]
 clear HW1 HQ
 go_wp2
 go_loopw [43] (fun iv wr => iv = .int .i64 0 ∧ wr = w1) (fun _ _ => 0)
 case atStart => exact ⟨rfl, rfl⟩
 case round =>
 obtain ⟨rfl, rfl⟩ := hrel
 go_wp2
 go_loopw [61] (fun iv wx => iv = .int .i64 0 ∧ wx = wr) (fun _ _ => 0)
 case atStart => exact ⟨rfl, rfl⟩
 case round =>
 obtain ⟨rfl, rfl⟩ := hrel
 go_wp2
 go_loopw [80] (fun iv wx => iv = .int .i64 0 ∧ wx = wr) (fun _ _ => 0)
 case atStart => exact ⟨rfl, rfl⟩
 case round =>
 obtain ⟨rfl, rfl⟩ := hrel
 go_wp2
 go_ret
 exact ⟨rfl, HB1.out⟩
set_option maxRecDepth 100000 in
set_option maxHeartbeats 16000000 in
theorem awake19_any (w : World) (E : Env w) (hT : LegT w) :
  Calls Tryz.prog 19 #[] w fun e w' => e = .returned (.bool true) ∧ Below w.heap.size w w' := by
 have hl79 : (sealL exB).length = 79 := by unfold sealL; rw [List.length_append, exB_len]; rfl
 have hc1 := compile_hdr w E
 unfold exS dbH at hc1
 dsimp only at hc1
 go_enter Tryz.func19, Tryz.ntmps19
 go_wp2_with fail
 refine hc1.mono ?_
 rintro e w1 ⟨rfl, hb1⟩
 clear hc1
 obtain ⟨w2, hw2⟩ : ∃ W, w1.alloc (.cells (dbH (.slice none 0 0)) 30) = W := ⟨_, rfl⟩
 have hb2 : Below w1.heap.size w1 w2 := by rw [← hw2]; exact (Below.refl _ _).alloc (Nat.le_refl _) _
 have B2 := Lib.hid (Below.then_ hb1 hb2)
 obtain ⟨q, hq⟩ : ∃ q, w1.heap.size = q := ⟨_, rfl⟩
 have X2 : Hid (Bx q (dbH (.slice none 0 0)) 30 w2) := by rw [← hw2, ← hq]; exact Bx.last w1 _ _
 have hen := encodeZ w2 (hT.below B2.out)
 have HT := Lib.hid hT
 unfold dbH at hw2 hen
 have HEN := Lib.hid hen
 have HW2 := Lib.hid hw2
 have HQ := Lib.hid hq
 obtain ⟨⟨x0, x1, x2, x3, x4, x5, x6, x7, x8⟩, _⟩ := Bx.cells9 X2.out
 have xl := Bx.lt X2.out
 have HL := Lib.hid hl79
 clear hb1 hb2 hw2 hq hen hl79 hT
 go_upto_region 2 with fail
 rw [HW2.out, HQ.out]
 clear HW2 HQ
 go_wp2_with fail
 refine HEN.out.mono ?_
 rintro e w3 ⟨vp, rfl, gb, cc, rfl, hcc, hcm, -, hba, hb3⟩
 have B3 := Lib.hid (Below.then_ B2.out hb3)
 have X3 := Lib.hid (X2.out.via hb3)
 have V3 : BsV w3 (.slice (some ⟨gb, 0, none⟩) (sealL exB).length cc) (sealL exB) := ⟨_, cc, rfl, hcc, hcm, fun _ => ⟨gb, 0, rfl, hba⟩⟩
 have hde := decodeZ _ w3 (HT.out.below B3.out) V3
 unfold dbH at hde
 have HDE := Lib.hid hde
 have HBA := Lib.hid hba
 have HCM := Lib.hid hcm
 rw [HL.out] at hcc HDE ⊢
 clear x0 x1 x2 x3 x4 x5 x6 x7 x8 xl hb3 B2 X2 HEN V3 hde hba hcm
 go_wp2_with fail
 refine HDE.out.mono ?_
 rintro e w4 ⟨rfl, hb4⟩
 have B4 := Lib.hid (Below.then_ B3.out hb4)
 have X4 := Lib.hid (X3.out.via hb4)
 have BA4 := Lib.hid (HBA.out.below hb4)
 obtain ⟨w5, hw5⟩ : ∃ W, w4.alloc (.cells (dbH (.slice none 0 0)) 30) = W := ⟨_, rfl⟩
 have hb5 : Below w4.heap.size w4 w5 := by rw [← hw5]; exact (Below.refl _ _).alloc (Nat.le_refl _) _
 obtain ⟨q5, hq5⟩ : ∃ q, w4.heap.size = q := ⟨_, rfl⟩
 have Y5 : Hid (Bx q5 (dbH (.slice none 0 0)) 30 w5) := by rw [← hw5, ← hq5]; exact Bx.last w4 _ _
 have B5 := Lib.hid (Below.then_ B4.out hb5)
 have X5 := Lib.hid (X4.out.via hb5)
 have BA5 := Lib.hid (BA4.out.below hb5)
 have V5 : BsV w5 (.slice (some ⟨gb, 0, none⟩) (sealL exB).length cc) (sealL exB) := ⟨_, cc, rfl, by rw [HL.out]; exact hcc, HCM.out, fun _ => ⟨gb, 0, rfl, BA5.out⟩⟩
 have hse := imSections_any _ (sealL exB) w5 ((imRead_any _ (sealL exB) w5 V5 (by rw [HL.out]; omega)).mono fun e w' h => h.form)
 rw [ex_rd, HL.out] at hse
 have HSE := Lib.hid hse
 unfold dbH at hw5
 have HW5 := Lib.hid hw5
 have HQ5 := Lib.hid hq5
 clear hb4 hb5 HDE B3 X3 HBA B4 X4 BA4 hw5 hq5 V5 hse
 go_upto_region 4 with fail
 rw [HW5.out, HQ5.out]
 clear HW5 HQ5
 go_wp2_with fail
 refine HSE.out.mono ?_
 rintro e w6 ⟨sv, rfl, hrd, hb6⟩
 have B6 := Lib.hid (Below.then_ B5.out hb6)
 have X6 := Lib.hid (X5.out.via hb6)
 have Y6 := Lib.hid (Y5.out.via hb6)
 have BA6 := BA5.out.below hb6
 have hcv := bsv_string (w := w6) (v := .slice (some ⟨gb, 0, none⟩) 9 cc) (l := (sealL exB).take 9) ⟨_, cc, by rw [List.length_take, HL.out]; rfl, by rw [List.length_take, HL.out]; omega, HCM.out, fun _ => ⟨gb, 0, rfl, BA6.take 9⟩⟩
 rw [ex_head] at hcv
 have e1 : ((sb [70, 68, 66, 49, 1, 45, 0, 0, 0]).toList == [70, 68, 66, 49, 1, 45, 0, 0, 0]) = true := by rw [bl_toList, bl_sb]; rfl
 obtain ⟨-, As, cs, hsv, -, -, hsx⟩ := hrd
 obtain ⟨gs, os, rfl, hgs, hcell⟩ := hsx (by decide)
 have d0 := hcell 12 (.int .u8 4) rfl
 have d1 := hcell 13 (.int .i64 73) rfl
 have d2 := hcell 14 (.int .i64 2) rfl
 have d3 := hcell 15 (.int .i64 0) rfl
 subst hsv
 obtain ⟨⟨x0, x1, x2, x3, x4, x5, x6, x7, x8⟩, _⟩ := Bx.cells9 X6.out
 have xl := Bx.lt X6.out
 obtain ⟨⟨y0, y1, y2, y3, y4, y5, y6, y7, y8⟩, _⟩ := Bx.cells9 Y6.out
 have yl := Bx.lt Y6.out
 have hsm := same_ex none none 0 0 w6
 unfold dbH at hsm
 have HSM := Lib.hid hsm
 have hc9 : (9 : Int) ≤ (cc : Int) := by omega
 have hgb := BA6.1
 clear hb6 B5 X5 Y5 BA5 HSE hcell hsx hsm BA6
 have D0 := Lib.hid d0
 have D1 := Lib.hid d1
 have D2 := Lib.hid d2
 have D3 := Lib.hid d3
 have hgs2 := Lib.hid hgs
 clear d0 d1 d2 d3
 go_wp2_with fail
 refine HSM.out.mono ?_
 rintro e w7 ⟨rfl, hb7⟩
 have B7 := Lib.hid (Below.then_ B6.out hb7)
 have d0 := (hb7.cell (p := ⟨gs, os + 12, none⟩) hgs2.out).trans D0.out
 have d1 := (hb7.cell (p := ⟨gs, os + 13, none⟩) hgs2.out).trans D1.out
 have d2 := (hb7.cell (p := ⟨gs, os + 14, none⟩) hgs2.out).trans D2.out
 have d3 := (hb7.cell (p := ⟨gs, os + 15, none⟩) hgs2.out).trans D3.out
 have hg7 : gs < w7.heap.size := Nat.lt_of_lt_of_le hgs2.out hb7.size
 clear HSM hb7 x0 x1 x2 x3 x4 x5 x6 x7 x8 xl y0 y1 y2 y3 y4 y5 y6 y7 y8 yl hcv e1
 go_wp2
 go_ret
 exact ⟨rfl, B7.out⟩
end Go.Proofs.YtlhniiakacbbeaaGreatDoor
