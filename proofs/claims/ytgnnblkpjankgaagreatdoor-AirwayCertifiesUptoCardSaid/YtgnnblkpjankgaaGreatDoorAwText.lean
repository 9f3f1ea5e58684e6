/-
  Contract: the text of an airway, by the program.
-/
import Derived.Test.YtgnnblkpjankgaaGreatDoorAwTextL
import Derived.Test.YtgnnblkpjankgaaGreatDoorAwL
namespace Go.Proofs.YtgnnblkpjankgaaGreatDoor
open Go.RowKit
set_option linter.unusedVariables false
set_option linter.unusedSimpArgs false

theorem ownF_below {base : Nat} {w w' : World} {e : TypeId} {size n : Nat} {v : Value} {xs : List Value} (h : w.ownsRowF base e size v n xs) (hb : Below w.heap.size w w') : w'.ownsRowF base e size v n xs := by
  obtain ⟨hl, h2 | ⟨g, cap, cur, fz, hv, hg, hh, r⟩⟩ := h
  · exact ⟨hl, .inl h2⟩
  · exact ⟨hl, .inr ⟨g, cap, cur, fz, hv, hg, (hb.block g (Array.getElem?_eq_some_iff.1 hh).1).trans hh, r⟩⟩
theorem isBuilder_below {T e : TypeId} {B b : Nat} {bs : List Value} {w w' : World} (h : Lib.IsBuilderF T e B b bs w) (hb : Below w.heap.size w w') : Lib.IsBuilderF T e B b bs w' := by
  have one : ∀ p, Lib.BuilderAtF T e B b p bs w → Lib.BuilderAtF T e B b p bs w' := by
    rintro p ⟨h1, v, h2, h3, h4⟩
    exact ⟨h1, v, (hb.block b (Array.getElem?_eq_some_iff.1 h2).1).trans h2, ownF_below h3 hb, h4⟩
  rcases h with h | h
  · exact .inl (one _ h)
  · exact .inr (one _ h)
theorem byteCells_str (s : ByteArray) : Lib.strCells s = Lib.byteCells (bl s) := rfl
theorem byteCells_append (a b : List UInt8) : Lib.byteCells (a ++ b) = Lib.byteCells a ++ Lib.byteCells b := by unfold Lib.byteCells; rw [List.map_append]
theorem byteCells_len (a : List UInt8) : (Lib.byteCells a).length = a.length := by unfold Lib.byteCells; rw [List.length_map]
/-- what Text answers -/
def txOut (nm : List UInt8) (l : List Pt) : List UInt8 := if chkA nm l = 0 then awText nm l else []
def TxPost (nm : List UInt8) (l : List Pt) (w : World) (e : Ending) (w' : World) : Prop := ∃ t, e = .returned (.tuple #[.string t, .int .i64 (chkA nm l)]) ∧ Hid (bl t = txOut nm l) ∧ Below w.heap.size w w'
set_option maxHeartbeats 1000000 in
/-- the words of the directions: three texts in a new row -/
theorem words_any (w : World) : Calls Tryz.prog 52 #[] w fun e w' => e = .returned (.slice (some ⟨w.heap.size, 0, none⟩) 3 3) ∧ w' = w.alloc (.cells #[.string ⟨#[66, 79, 84, 72]⟩, .string ⟨#[70, 79, 82, 87, 65, 82, 68]⟩, .string ⟨#[66, 65, 67, 75, 87, 65, 82, 68]⟩] 9) := by
  go_enter Tryz.func52, Tryz.ntmps52
  go_wp2
  go_ret
  exact ⟨rfl, rfl⟩
theorem dirWord_cell {d : Nat} (h : d ≤ 2) (w : World) : (w.alloc (.cells #[.string ⟨#[66, 79, 84, 72]⟩, .string ⟨#[70, 79, 82, 87, 65, 82, 68]⟩, .string ⟨#[66, 65, 67, 75, 87, 65, 82, 68]⟩] 9)).cell? ⟨w.heap.size, d, none⟩ = some (.string (sb (dirWord d))) := by
  match d, h with
  | 0, _ => simp [go_sem]; rfl
  | 1, _ => simp [go_sem]; rfl
  | 2, _ => simp [go_sem]; rfl
set_option maxRecDepth 100000 in
set_option maxHeartbeats 4000000 in
theorem text_any (nm : ByteArray) (v : Value) (l : List Pt) (w : World) (E : Env w) (h : PtsR w v l) (hnm : nm.size ≤ maxLen) :
    Calls Tryz.prog 18 #[.agg #[.string nm, v]] w (TxPost (bl nm) l w) := by
  obtain ⟨A, c, rfl, hc, hm⟩ := h.form
  unfold maxLen at hm
  have H := Lib.hid h
  clear h
  obtain ⟨n, hnn⟩ : ∃ n, l.length = n := ⟨_, rfl⟩
  rw [hnn] at hc H
  rw [hnn]
  have HN := Lib.hid hnn
  clear hnn
  have HPOST : Hid (∀ (t : ByteArray) (er : Int) (w' : World), chkA (bl nm) l = er → Hid (bl t = txOut (bl nm) l) → Below w.heap.size w w' → TxPost (bl nm) l w (.returned (.tuple #[.string t, .int .i64 er])) w') := fun t er w' h1 h2 h3 => ⟨t, by rw [h1], h2, h3⟩
  have Q0 : Hid (BoxQ w nm (.slice A n c) (w.alloc (.cells #[.string nm, .slice A n c] 63))) := Below.refl _ _
  go_enter Tryz.func18, Tryz.ntmps18
  go_wp2_with fail
  refine (check_any nm _ l _ (Q0.out.pts H) hnm).mono ?_
  rintro e1 w1 ⟨rfl, hb1⟩
  have Q1 := Lib.hid (Q0.out.then_ hb1)
  have b0 := Q1.out.c0
  have b1 := Q1.out.c1
  have bs := Q1.out.size
  clear hb1
  obtain ⟨ch, hch⟩ : ∃ ch, chkA (bl nm) l = ch := ⟨_, rfl⟩
  rw [hch]
  have HC := Lib.hid hch
  clear hch
  by_cases h0 : ch = 0
  · have e1 : (ch != 0) = false := by rw [h0]; rfl
    have H0 := Lib.hid h0
    have HAS := Lib.hid (chk_has (HC.out.trans h0))
    clear h0
    have hn8 : nm.size ≤ 8 := HAS.out.1
    have hn40 : n ≤ 40 := by have := HAS.out.2.2.1; rw [HN.out] at this; exact this
    have HTX : Hid (txOut (bl nm) l = [65, 73, 82, 87, 65, 89, 32] ++ bl nm ++ [10] ++ ptLines (l.drop 0)) := by
      unfold Hid txOut; rw [if_pos (by rw [HC.out]; exact H0.out)]; rfl
    obtain ⟨B, hB⟩ : ∃ B, w1.heap.size = B := ⟨_, rfl⟩
    have HB := Lib.hid hB
    have F0 : Hid (Lib.IsBuilderF 114 5 B B (Lib.byteCells []) (w1.alloc (.cells #[.pointer none, .slice none 0 0] 114))) := by
      unfold Hid; rw [← hB]; exact Lib.IsBuilderF.of (Lib.fresh_isBuilder _ _ w1)
    have Q2 : Hid (BoxQ w nm (.slice A n c) (w1.alloc (.cells #[.pointer none, .slice none 0 0] 114))) := Q1.out.then_ ((Below.refl _ _).alloc (Nat.le_refl _) _)
    have hwB : w.heap.size < B := by rw [← hB]; exact bs
    have hBle : B ≤ (w1.alloc (.cells #[.pointer none, .slice none 0 0] 114)).heap.size := by simp; omega
    clear hB
    go_wp2_with fail
    rw [HB.out]
    refine (Any.Builder_WriteString_k Tryz.lays166 Tryz.Builder_Extra_166 B B _ _ _ F0.out (by rw [byteCells_len]; simp only [ByteArray.size_append]; show 0 + (7 + nm.size + 1) ≤ _; omega) hBle).mono ?_
    rintro e w3 ⟨rfl, hbd3, hbl3, _⟩
    have Q3 : Hid (BoxQ w nm (.slice A n c) w3) := Below.trans Q2.out (hbl3.mono (by omega))
    have HB3 : Hid (Lib.IsBuilderF 114 5 B B (Lib.byteCells ([65, 73, 82, 87, 65, 89, 32] ++ bl nm ++ [10])) w3) := by
      unfold Hid
      have h := hbd3
      rw [byteCells_str, ← byteCells_append, List.nil_append, bl_append, bl_append] at h
      exact .inr h
    have b1 := Q3.out.c1
    have bs3 := Q3.out.size
    have hB3 : B < w3.heap.size := by have h1 := hbl3.size; have h2 := HB.out; simp at h1; omega
    clear hbd3 hbl3 F0
    go_wp2_with fail
    go_loopw [23] (fun iv wr => ∃ (k : Nat) (done : List UInt8), iv = .int .i64 k ∧ k ≤ n ∧ Hid (Lib.IsBuilderF 114 5 B B (Lib.byteCells done) wr) ∧ Hid (txOut (bl nm) l = done ++ ptLines (l.drop k)) ∧ done.length ≤ 20 + k * 200000 ∧ Hid (BoxQ w nm (.slice A n c) wr) ∧ B < wr.heap.size) (fun iv _ => n - (intOf iv).toNat)
    case atStart => exact ⟨0, _, rfl, Nat.zero_le _, HB3, HTX, by simp [bl_len]; omega, Q3, hB3⟩
    case round =>
      obtain ⟨k, done, rfl, hk, hbd, htx, hdl, Q4, hBr⟩ := hrel
      have b1 := Q4.out.c1
      have bs4 := Q4.out.size
      by_cases hlt : k < n
      · have hkl : k < l.length := by rw [HN.out]; exact hlt
        obtain ⟨g, o, cx, hA, hg, x0, x1, x2, x3⟩ := H.out.at_ hkl
        rw [HN.out] at hA
        simp only [Value.slice.injEq, true_and] at hA
        obtain ⟨rfl, rfl⟩ := hA
        have hbw := Q4.out.below
        have y0 := (hbw.cell (p := ⟨g, o + k * 4, none⟩) hg).trans x0
        have y1 := (hbw.cell (p := ⟨g, o + k * 4 + 1, none⟩) hg).trans x1
        have y2 := (hbw.cell (p := ⟨g, o + k * 4 + 2, none⟩) hg).trans x2
        have y3 := (hbw.cell (p := ⟨g, o + k * 4 + 3, none⟩) hg).trans x3
        have hst := ptLines_step hkl
        have hhas := HAS.out.2.2.2 k hkl
        obtain ⟨p, hp⟩ : ∃ p, l[k] = p := ⟨_, rfl⟩
        rw [hp] at y0 y1 y2 y3 hst hhas
        rw [HN.out] at hst hhas
        have HST := Lib.hid hst
        have HHAS := Lib.hid hhas
        have hr13 : (sb p.ref).size ≤ 13 := hhas.1
        clear x0 x1 x2 x3 hst hhas hp hbw
        have hki : (k : Int) < (n : Int) := by omega
        obtain ⟨B2, hB2⟩ : ∃ B2, wr.heap.size = B2 := ⟨_, rfl⟩
        have HB2 := Lib.hid hB2
        have Q5 : Hid (BoxQ w nm (.slice (some ⟨g, o, none⟩) n c) (wr.alloc (.cells #[.string (sb p.ref), .int .i64 p.lo, .int .i64 p.hi, .int .u8 (p.dir : Int)] 68))) := Q4.out.then_ ((Below.refl _ _).alloc (Nat.le_refl _) _)
        have HBD5 : Hid (Lib.IsBuilderF 114 5 B B (Lib.byteCells done) (wr.alloc (.cells #[.string (sb p.ref), .int .i64 p.lo, .int .i64 p.hi, .int .u8 (p.dir : Int)] 68))) := isBuilder_below hbd.out ((Below.refl _ _).alloc (Nat.le_refl _) _)
        clear hB2
        go_wp2_with fail
        refine (Any.Builder_WriteString_k Tryz.lays166 Tryz.Builder_Extra_166 B B _ _ _ HBD5.out (by rw [byteCells_len]; simp only [ByteArray.size_append]; show done.length + (4 + _) ≤ _; omega) (by simp; omega)).mono ?_
        rintro e w6 ⟨rfl, hbd6, hbl6, hok6⟩
        have Q6 : Hid (BoxQ w nm (.slice (some ⟨g, o, none⟩) n c) w6) := Below.trans Q5.out (hbl6.mono (by omega))
        have HBD6 : Hid (Lib.IsBuilderF 114 5 B B (Lib.byteCells (done ++ ([86, 73, 65, 32] ++ p.ref))) w6) := by
          unfold Hid
          have h := hbd6
          rw [byteCells_str, ← byteCells_append, bl_append, bl_sb] at h
          exact .inr h
        have b1 := Q6.out.c1
        have bs6 := Q6.out.size
        have hB6 : B2 < w6.heap.size := by have := hbl6.size; simp at this; have := HB2.out; omega
        have hblk : w6.heap[B2]? = some (.cells #[.string (sb p.ref), .int .i64 p.lo, .int .i64 p.hi, .int .u8 (p.dir : Int)] 68 (0, 0)) := by
          rw [← HB2.out]
          exact hok6 _ _ (heap_alloc_new wr _) (by intro h; injection h with h; have := HB2.out; omega) (by intro c fz h; injection h with _ h; cases h)
        have z1 : w6.cell? ⟨B2, 1, none⟩ = some (.int .i64 p.lo) := by rw [Lib.cell_of_heap hblk]; rfl
        have z2 : w6.cell? ⟨B2, 2, none⟩ = some (.int .i64 p.hi) := by rw [Lib.cell_of_heap hblk]; rfl
        have HBLK := Lib.hid hblk
        clear hbd6 hbl6 HBD5 hok6 hblk
        rcases Nat.lt_or_ge (k + 1) n with hl2 | hl2
        · have hi1 : (k : Int) < (n : Int) - 1 := by omega
          rw [HB2.out]
          have hd2 := (HHAS.out.2.1 (by omega)).1
          have E6 := E.below Q6.out.below
          go_wp2_with fail
          refine (winText_any p.lo p.hi _ E6).mono ?_
          rintro e w7 ⟨t, rfl, ht, hb7⟩
          have hts : t.size ≤ 140004 := by rw [← bl_len, ht.out]; exact winOut_len _ _
          have Q7 := Lib.hid (Q6.out.then_ hb7)
          have HBD7 := Lib.hid (isBuilder_below HBD6.out hb7)
          have z3 : w7.cell? ⟨B2, 3, none⟩ = some (.int .u8 (p.dir : Int)) := (hb7.cell (p := ⟨B2, 3, none⟩) hB6).trans (by rw [Lib.cell_of_heap HBLK.out]; rfl)
          have hB7 : B2 < w7.heap.size := Nat.lt_of_lt_of_le hB6 hb7.size
          have b1 := Q7.out.c1
          have bs7 := Q7.out.size
          have HB1 := Lib.hid b1
          have HD2 := Lib.hid hd2
          have hd0 : (0 : Int) ≤ (p.dir : Int) := by omega
          have hd3 : (p.dir : Int) < 3 := by omega
          have hd4 : p.dir < 3 := by omega
          have hdw : (sb (dirWord p.dir)).size ≤ 8 := dirWord_len _
          have hBB : B < B2 := by have := HB2.out; omega
          have HSZ : Hid ((Lib.byteCells (done ++ ([86, 73, 65, 32] ++ p.ref))).length + ((⟨#[32]⟩ : ByteArray) ++ t ++ ⟨#[32]⟩ ++ sb (dirWord p.dir)).size ≤ 140737488355328) := by
            unfold Hid
            have h13 : p.ref.length ≤ 13 := hr13
            rw [byteCells_len, List.length_append, List.length_append]
            simp only [ByteArray.size_append]
            show done.length + (4 + p.ref.length) + (1 + t.size + 1 + _) ≤ _
            omega
          have HEQ : Hid (Lib.byteCells (done ++ ([86, 73, 65, 32] ++ p.ref)) ++ Lib.strCells ((⟨#[32]⟩ : ByteArray) ++ t ++ ⟨#[32]⟩ ++ sb (dirWord p.dir)) = Lib.byteCells (done ++ ([86, 73, 65, 32] ++ p.ref) ++ (32 :: (winOut p.lo p.hi ++ 32 :: dirWord p.dir)))) := by
            unfold Hid
            rw [byteCells_str, ← byteCells_append, bl_append, bl_append, bl_append, ht.out, bl_sb]
            simp only [bl_mk, List.append_assoc, List.cons_append, List.nil_append]
          have HDL : Hid (Hid (bl t = winOut p.lo p.hi) ∧ done.length ≤ 20 + k * 200000) := ⟨ht, hdl⟩
          clear hb7 z1 z2
          go_upto_region 12 with (fail)
          go_cut [52] (fun a wx => Hid (Lib.IsBuilderF 114 5 B B (Lib.byteCells (done ++ ([86, 73, 65, 32] ++ p.ref) ++ (32 :: (winOut p.lo p.hi ++ 32 :: dirWord p.dir)))) wx) ∧ Hid (BoxQ w nm (.slice (some ⟨g, o, none⟩) n c) wx) ∧ B < wx.heap.size)
          case first =>
            go_region_with (first | (go_at_call 52; refine (words_any _).mono ?_; rintro e w8 ⟨rfl, rfl⟩; have hdc := dirWord_cell HD2.out) | (go_at_call 50; go_loud (refine (Any.Builder_WriteString_k Tryz.lays166 Tryz.Builder_Extra_166 B B _ _ _ (isBuilder_below HBD7.out (by repeat (first | exact Below.refl _ _ | refine Below.drew ?_ | refine Below.alloc ?_ (by simp) _ | refine below_drewN' ?_ _))) HSZ.out (by simp; omega)).mono ?_); rintro e w9 ⟨rfl, hbd9, hbl9, _⟩; have HBD9 := Lib.hid hbd9; have HBL9 := Lib.hid hbl9; clear hbd9 hbl9))
            all_goals
              have hsz9 : B < w9.heap.size := by have h1 := HBL9.out.size; simp at h1; omega
              have Q9 : Hid (BoxQ w nm (.slice (some ⟨g, o, none⟩) n c) w9) := Below.trans (Q7.out.then_ (by repeat (first | exact Below.refl _ _ | refine Below.drew ?_ | refine Below.alloc ?_ (by simp) _ | refine below_drewN' ?_ _))) (HBL9.out.mono (by omega))
              have HBZ : Hid (Lib.IsBuilderF 114 5 B B (Lib.byteCells (done ++ ([86, 73, 65, 32] ++ p.ref) ++ (32 :: (winOut p.lo p.hi ++ 32 :: dirWord p.dir)))) w9) := by
                have h := HBD9.out
                rw [HEQ.out] at h
                exact .inr h
              clear HBD9 HBL9
              go_wp2
              go_meet
              exact ⟨HBZ, Q9, hsz9⟩
          case rest =>
            obtain ⟨HBZ, Q9, hsz9⟩ := hcut
            have hdl2 : (done ++ ([86, 73, 65, 32] ++ p.ref) ++ (32 :: (winOut p.lo p.hi ++ 32 :: dirWord p.dir))).length ≤ 20 + k * 200000 + 150000 := by
              have h1 := winOut_len p.lo p.hi
              have h2 := dirWord_len p.dir
              have h13 : p.ref.length ≤ 13 := hr13
              have h3 := HDL.out.2
              simp only [List.length_append, List.length_cons, List.length_nil]
              omega
            have HN2 : Hid (txOut (bl nm) l = (done ++ ([86, 73, 65, 32] ++ p.ref) ++ (32 :: (winOut p.lo p.hi ++ 32 :: dirWord p.dir)) ++ [10]) ++ ptLines (l.drop (k + 1))) := by
              unfold Hid
              rw [htx.out, HST.out]
              have e : decide (n ≤ k + 1) = false := decide_eq_false (by omega)
              rw [e]
              unfold ptLine ptTail
              simp only [Bool.false_eq_true, if_false, List.append_assoc, List.cons_append, List.nil_append]
            obtain ⟨D, hD⟩ : ∃ D, done ++ ([86, 73, 65, 32] ++ p.ref) ++ (32 :: (winOut p.lo p.hi ++ 32 :: dirWord p.dir)) = D := ⟨_, rfl⟩
            rw [hD] at HBZ hdl2 HN2
            clear hD
            go_wp2_with fail
            refine (Any.Builder_WriteString_k Tryz.lays166 Tryz.Builder_Extra_166 B B _ _ _ HBZ.out (by rw [byteCells_len]; show D.length + 1 ≤ _; omega) (by omega)).mono ?_
            rintro e w10 ⟨rfl, hbd10, hbl10, _⟩
            have Q10 : Hid (BoxQ w nm (.slice (some ⟨g, o, none⟩) n c) w10) := Below.trans Q9.out (hbl10.mono (by omega))
            have HBD10 : Hid (Lib.IsBuilderF 114 5 B B (Lib.byteCells (D ++ [10])) w10) := by
              unfold Hid
              have h := hbd10
              rw [byteCells_str, ← byteCells_append] at h
              exact .inr h
            have hsz10 : B < w10.heap.size := by have := hbl10.size; omega
            clear hbd10 hbl10
            go_wp2
            go_roundw
            case rel => exact ⟨k + 1, _, by go_num, hlt, HBD10, HN2, by rw [List.length_append, List.length_singleton]; omega, Q10, hsz10⟩
            case measure => simp [intOf]; omega
        · have hi1 : (n : Int) - 1 ≤ (k : Int) := by omega
          have hdl2 : (done ++ ([86, 73, 65, 32] ++ p.ref)).length ≤ 20 + k * 200000 + 150000 := by
            have h13 : p.ref.length ≤ 13 := hr13
            simp only [List.length_append, List.length_cons, List.length_nil]
            omega
          have HN2 : Hid (txOut (bl nm) l = (done ++ ([86, 73, 65, 32] ++ p.ref) ++ [10]) ++ ptLines (l.drop (k + 1))) := by
            unfold Hid
            rw [htx.out, HST.out]
            have e : decide (n ≤ k + 1) = true := decide_eq_true (by omega)
            rw [e]
            unfold ptLine ptTail
            simp only [if_true, List.append_assoc, List.cons_append, List.nil_append]
          obtain ⟨D, hD⟩ : ∃ D, done ++ ([86, 73, 65, 32] ++ p.ref) = D := ⟨_, rfl⟩
          rw [hD] at HBD6 hdl2 HN2
          have hBB : B < B2 := by have := HB2.out; omega
          clear hD
          rw [HB2.out]
          go_wp2_with fail
          refine (Any.Builder_WriteString_k Tryz.lays166 Tryz.Builder_Extra_166 B B _ _ _ HBD6.out (by rw [byteCells_len]; show D.length + 1 ≤ _; omega) (by omega)).mono ?_
          rintro e w10 ⟨rfl, hbd10, hbl10, _⟩
          have Q10 : Hid (BoxQ w nm (.slice (some ⟨g, o, none⟩) n c) w10) := Below.trans Q6.out (hbl10.mono (by omega))
          have HBD10 : Hid (Lib.IsBuilderF 114 5 B B (Lib.byteCells (D ++ [10])) w10) := by
            unfold Hid
            have h := hbd10
            rw [byteCells_str, ← byteCells_append] at h
            exact .inr h
          have hsz10 : B < w10.heap.size := by have := hbl10.size; omega
          clear hbd10 hbl10
          go_wp2
          go_roundw
          case rel => exact ⟨k + 1, _, by go_num, hlt, HBD10, HN2, by rw [List.length_append, List.length_singleton]; omega, Q10, hsz10⟩
          case measure => simp [intOf]; omega
      · have HE : Hid (bl (⟨done.toArray⟩ : ByteArray) = txOut (bl nm) l) := by
          unfold Hid
          rw [htx.out, ptLines_end (by have := HN.out; omega), List.append_nil]; rfl
        go_wp2_with fail
        refine (Any.Builder_String_any_k Tryz.lays169 Tryz.Builder_Extra_169 B B done _ hbd.out (by omega)).mono ?_
        rintro e w10 ⟨rfl, _, hbl10, _⟩
        have Q10 : Hid (BoxQ w nm (.slice A n c) w10) := Below.trans Q4.out (hbl10.mono (by omega))
        clear hbl10
        go_wp2
        go_ret2
        exact HPOST.out _ _ _ (HC.out.trans H0.out) HE Q10.out.below
  · have e1 : (ch != 0) = true := bne_iff_ne.2 h0
    have H0 := Lib.hid h0
    clear h0
    go_wp2
    go_ret2
    exact HPOST.out _ _ _ HC.out (by unfold Hid txOut; rw [if_neg (by rw [HC.out]; exact H0.out)]; rfl) Q1.out.below
end Go.Proofs.YtgnnblkpjankgaaGreatDoor
