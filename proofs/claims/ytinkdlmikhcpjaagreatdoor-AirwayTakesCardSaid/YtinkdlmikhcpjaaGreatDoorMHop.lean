/-
  Several texts as one.
  Contract: the text of an airway, by the program.
  Contracts: the hops that begin at a fix, on both sides.
  Contracts: Next of both sides; the law's comparison of hops.
  Plain laws: the references that can be reached, in the order in which they are found, and ascending.
  Contract: the references that can be reached: airway.reach.
  Plain laws: what the search finds is closed under hops, and it is the least such list that has its beginning.
  Contract: Reach of the program.
  Contracts and values: the airway of the chapter's examples, and that the law's awake answers true.
  Contract: the law's awake answers true.
-/
import Derived.Test.YtinkdlmikhcpjaaGreatDoorMAw
import Derived.IntWalk
import Derived.Test.YtinkdlmikhcpjaaGreatDoorShelf2
import Derived.Maps.Own
import Derived.Maps.OwnOps
import Derived.Maps.Views
import Derived.Maps.OwnSet
import Derived.StringKeys
import Derived.Sort.OwnSorted
namespace Go.Proofs.YtinkdlmikhcpjaaGreatDoor
open Go.RowKit
set_option linter.unusedVariables false
set_option linter.unusedSimpArgs false

theorem ownF_below {base : Nat} {w w' : World} {e : TypeId} {size n : Nat} {v : Value} {xs : List Value} (h : w.ownsRowF base e size v n xs) (hb : Below w.heap.size w w') : w'.ownsRowF base e size v n xs := by
  obtain ⟨hl, h2 | ⟨g, cap, cur, fz, hv, hg, hh, r⟩⟩ := h
  · exact ⟨hl, .inl h2⟩
  · exact ⟨hl, .inr ⟨g, cap, cur, fz, hv, hg, (hb.block g (Array.getElem?_eq_some_iff.1 hh).1).trans hh, r⟩⟩
theorem isBuilder_below {T e : TypeId} {B b : Nat} {bs : List Value} {w w' : World} (h : Lib.IsBuilderF T e B b bs w) (hb : Below w.heap.size w w') : Lib.IsBuilderF T e B b bs w' := by
  have one : ∀ p, Lib.BuilderAtF T e B b p bs w → Lib.BuilderAtF T e B b p bs w' := by
    rintro p ⟨h1, v, h2, h3, h4⟩
    exact ⟨h1, v, (hb.block b (Array.getElem?_eq_some_iff.1 h2).1).trans h2, ownF_below h3 hb, h4⟩
  rcases h with h | h
  · exact .inl (one _ h)
  · exact .inr (one _ h)
theorem byteCells_str (s : ByteArray) : Lib.strCells s = Lib.byteCells (bl s) := rfl
theorem byteCells_append (a b : List UInt8) : Lib.byteCells (a ++ b) = Lib.byteCells a ++ Lib.byteCells b := by unfold Lib.byteCells; rw [List.map_append]
theorem byteCells_len (a : List UInt8) : (Lib.byteCells a).length = a.length := by unfold Lib.byteCells; rw [List.length_map]
/-- what Text answers -/
def txOut (nm : List UInt8) (l : List Pt) : List UInt8 := if chkA nm l = 0 then awText nm l else []
def TxPost (nm : List UInt8) (l : List Pt) (w : World) (e : Ending) (w' : World) : Prop := ∃ t, e = .returned (.tuple #[.string t, .int .i64 (chkA nm l)]) ∧ Hid (bl t = txOut nm l) ∧ Below w.heap.size w w'
set_option maxHeartbeats 1000000 in
/-- the words of the directions: three texts in a new row -/
theorem words_any (w : World) : Calls Tryz.prog 70 #[] w fun e w' => e = .returned (.slice (some ⟨w.heap.size, 0, none⟩) 3 3) ∧ w' = w.alloc (.cells #[.string ⟨#[66, 79, 84, 72]⟩, .string ⟨#[70, 79, 82, 87, 65, 82, 68]⟩, .string ⟨#[66, 65, 67, 75, 87, 65, 82, 68]⟩] 9) := by
  go_enter Tryz.func70, Tryz.ntmps70
  go_wp2
  go_ret
  exact ⟨rfl, rfl⟩
theorem dirWord_cell {d : Nat} (h : d ≤ 2) (w : World) : (w.alloc (.cells #[.string ⟨#[66, 79, 84, 72]⟩, .string ⟨#[70, 79, 82, 87, 65, 82, 68]⟩, .string ⟨#[66, 65, 67, 75, 87, 65, 82, 68]⟩] 9)).cell? ⟨w.heap.size, d, none⟩ = some (.string (sb (dirWord d))) := by
  match d, h with
  | 0, _ => simp [go_sem]; rfl
  | 1, _ => simp [go_sem]; rfl
  | 2, _ => simp [go_sem]; rfl
set_option maxRecDepth 100000 in
set_option maxHeartbeats 4000000 in
theorem text_any (nm : ByteArray) (v : Value) (l : List Pt) (w : World) (E : Env w) (h : PtsR w v l) (hnm : nm.size ≤ maxLen) :
    Calls Tryz.prog 22 #[.agg #[.string nm, v]] w (TxPost (bl nm) l w) := by
  obtain ⟨A, c, rfl, hc, hm⟩ := h.form
  unfold maxLen at hm
  have H := Lib.hid h
  clear h
  obtain ⟨n, hnn⟩ : ∃ n, l.length = n := ⟨_, rfl⟩
  rw [hnn] at hc H
  rw [hnn]
  have HN := Lib.hid hnn
  clear hnn
  have HPOST : Hid (∀ (t : ByteArray) (er : Int) (w' : World), chkA (bl nm) l = er → Hid (bl t = txOut (bl nm) l) → Below w.heap.size w w' → TxPost (bl nm) l w (.returned (.tuple #[.string t, .int .i64 er])) w') := fun t er w' h1 h2 h3 => ⟨t, by rw [h1], h2, h3⟩
  have Q0 : Hid (BoxQ w nm (.slice A n c) (w.alloc (.cells #[.string nm, .slice A n c] 36))) := Below.refl _ _
  go_enter Tryz.func22, Tryz.ntmps22
  go_wp2_with fail
  refine (check_any nm _ l _ (Q0.out.pts H) hnm).mono ?_
  rintro e1 w1 ⟨rfl, hb1⟩
  have Q1 := Lib.hid (Q0.out.then_ hb1)
  have b0 := Q1.out.c0
  have b1 := Q1.out.c1
  have bs := Q1.out.size
  clear hb1
  obtain ⟨ch, hch⟩ : ∃ ch, chkA (bl nm) l = ch := ⟨_, rfl⟩
  rw [hch]
  have HC := Lib.hid hch
  clear hch
  by_cases h0 : ch = 0
  · have e1 : (ch != 0) = false := by rw [h0]; rfl
    have H0 := Lib.hid h0
    have HAS := Lib.hid (chk_has (HC.out.trans h0))
    clear h0
    have hn8 : nm.size ≤ 8 := HAS.out.1
    have hn40 : n ≤ 40 := by have := HAS.out.2.2.1; rw [HN.out] at this; exact this
    have HTX : Hid (txOut (bl nm) l = [65, 73, 82, 87, 65, 89, 32] ++ bl nm ++ [10] ++ ptLines (l.drop 0)) := by
      unfold Hid txOut; rw [if_pos (by rw [HC.out]; exact H0.out)]; rfl
    obtain ⟨B, hB⟩ : ∃ B, w1.heap.size = B := ⟨_, rfl⟩
    have HB := Lib.hid hB
    have F0 : Hid (Lib.IsBuilderF 121 5 B B (Lib.byteCells []) (w1.alloc (.cells #[.pointer none, .slice none 0 0] 121))) := by
      unfold Hid; rw [← hB]; exact Lib.IsBuilderF.of (Lib.fresh_isBuilder _ _ w1)
    have Q2 : Hid (BoxQ w nm (.slice A n c) (w1.alloc (.cells #[.pointer none, .slice none 0 0] 121))) := Q1.out.then_ ((Below.refl _ _).alloc (Nat.le_refl _) _)
    have hwB : w.heap.size < B := by rw [← hB]; exact bs
    have hBle : B ≤ (w1.alloc (.cells #[.pointer none, .slice none 0 0] 121)).heap.size := by simp; omega
    clear hB
    go_wp2_with fail
    rw [HB.out]
    refine (Any.Builder_WriteString_k Tryz.lays166 Tryz.Builder_Extra_166 B B _ _ _ F0.out (by rw [byteCells_len]; simp only [ByteArray.size_append]; show 0 + (7 + nm.size + 1) ≤ _; omega) hBle).mono ?_
    rintro e w3 ⟨rfl, hbd3, hbl3, _⟩
    have Q3 : Hid (BoxQ w nm (.slice A n c) w3) := Below.trans Q2.out (hbl3.mono (by omega))
    have HB3 : Hid (Lib.IsBuilderF 121 5 B B (Lib.byteCells ([65, 73, 82, 87, 65, 89, 32] ++ bl nm ++ [10])) w3) := by
      unfold Hid
      have h := hbd3
      rw [byteCells_str, ← byteCells_append, List.nil_append, bl_append, bl_append] at h
      exact .inr h
    have b1 := Q3.out.c1
    have bs3 := Q3.out.size
    have hB3 : B < w3.heap.size := by have h1 := hbl3.size; have h2 := HB.out; simp at h1; omega
    clear hbd3 hbl3 F0
    go_wp2_with fail
    go_loopw [23] (fun iv wr => ∃ (k : Nat) (done : List UInt8), iv = .int .i64 k ∧ k ≤ n ∧ Hid (Lib.IsBuilderF 121 5 B B (Lib.byteCells done) wr) ∧ Hid (txOut (bl nm) l = done ++ ptLines (l.drop k)) ∧ done.length ≤ 20 + k * 200000 ∧ Hid (BoxQ w nm (.slice A n c) wr) ∧ B < wr.heap.size) (fun iv _ => n - (intOf iv).toNat)
    case atStart => exact ⟨0, _, rfl, Nat.zero_le _, HB3, HTX, by simp [bl_len]; omega, Q3, hB3⟩
    case round =>
      obtain ⟨k, done, rfl, hk, hbd, htx, hdl, Q4, hBr⟩ := hrel
      have b1 := Q4.out.c1
      have bs4 := Q4.out.size
      by_cases hlt : k < n
      · have hkl : k < l.length := by rw [HN.out]; exact hlt
        obtain ⟨g, o, cx, hA, hg, x0, x1, x2, x3⟩ := H.out.at_ hkl
        rw [HN.out] at hA
        simp only [Value.slice.injEq, true_and] at hA
        obtain ⟨rfl, rfl⟩ := hA
        have hbw := Q4.out.below
        have y0 := (hbw.cell (p := ⟨g, o + k * 4, none⟩) hg).trans x0
        have y1 := (hbw.cell (p := ⟨g, o + k * 4 + 1, none⟩) hg).trans x1
        have y2 := (hbw.cell (p := ⟨g, o + k * 4 + 2, none⟩) hg).trans x2
        have y3 := (hbw.cell (p := ⟨g, o + k * 4 + 3, none⟩) hg).trans x3
        have hst := ptLines_step hkl
        have hhas := HAS.out.2.2.2 k hkl
        obtain ⟨p, hp⟩ : ∃ p, l[k] = p := ⟨_, rfl⟩
        rw [hp] at y0 y1 y2 y3 hst hhas
        rw [HN.out] at hst hhas
        have HST := Lib.hid hst
        have HHAS := Lib.hid hhas
        have hr13 : (sb p.ref).size ≤ 13 := hhas.1
        clear x0 x1 x2 x3 hst hhas hp hbw
        have hki : (k : Int) < (n : Int) := by omega
        obtain ⟨B2, hB2⟩ : ∃ B2, wr.heap.size = B2 := ⟨_, rfl⟩
        have HB2 := Lib.hid hB2
        have Q5 : Hid (BoxQ w nm (.slice (some ⟨g, o, none⟩) n c) (wr.alloc (.cells #[.string (sb p.ref), .int .i64 p.lo, .int .i64 p.hi, .int .u8 (p.dir : Int)] 74))) := Q4.out.then_ ((Below.refl _ _).alloc (Nat.le_refl _) _)
        have HBD5 : Hid (Lib.IsBuilderF 121 5 B B (Lib.byteCells done) (wr.alloc (.cells #[.string (sb p.ref), .int .i64 p.lo, .int .i64 p.hi, .int .u8 (p.dir : Int)] 74))) := isBuilder_below hbd.out ((Below.refl _ _).alloc (Nat.le_refl _) _)
        clear hB2
        go_wp2_with fail
        refine (Any.Builder_WriteString_k Tryz.lays166 Tryz.Builder_Extra_166 B B _ _ _ HBD5.out (by rw [byteCells_len]; simp only [ByteArray.size_append]; show done.length + (4 + _) ≤ _; omega) (by simp; omega)).mono ?_
        rintro e w6 ⟨rfl, hbd6, hbl6, hok6⟩
        have Q6 : Hid (BoxQ w nm (.slice (some ⟨g, o, none⟩) n c) w6) := Below.trans Q5.out (hbl6.mono (by omega))
        have HBD6 : Hid (Lib.IsBuilderF 121 5 B B (Lib.byteCells (done ++ ([86, 73, 65, 32] ++ p.ref))) w6) := by
          unfold Hid
          have h := hbd6
          rw [byteCells_str, ← byteCells_append, bl_append, bl_sb] at h
          exact .inr h
        have b1 := Q6.out.c1
        have bs6 := Q6.out.size
        have hB6 : B2 < w6.heap.size := by have := hbl6.size; simp at this; have := HB2.out; omega
        have hblk : w6.heap[B2]? = some (.cells #[.string (sb p.ref), .int .i64 p.lo, .int .i64 p.hi, .int .u8 (p.dir : Int)] 74 (0, 0)) := by
          rw [← HB2.out]
          exact hok6 _ _ (heap_alloc_new wr _) (by intro h; injection h with h; have := HB2.out; omega) (by intro c fz h; injection h with _ h; cases h)
        have z1 : w6.cell? ⟨B2, 1, none⟩ = some (.int .i64 p.lo) := by rw [Lib.cell_of_heap hblk]; rfl
        have z2 : w6.cell? ⟨B2, 2, none⟩ = some (.int .i64 p.hi) := by rw [Lib.cell_of_heap hblk]; rfl
        have HBLK := Lib.hid hblk
        clear hbd6 hbl6 HBD5 hok6 hblk
        rcases Nat.lt_or_ge (k + 1) n with hl2 | hl2
        · have hi1 : (k : Int) < (n : Int) - 1 := by omega
          rw [HB2.out]
          have hd2 := (HHAS.out.2.1 (by omega)).1
          have E6 := E.below Q6.out.below
          go_wp2_with fail
          refine (winText_any p.lo p.hi _ E6).mono ?_
          rintro e w7 ⟨t, rfl, ht, hb7⟩
          have hts : t.size ≤ 140004 := by rw [← bl_len, ht.out]; exact winOut_len _ _
          have Q7 := Lib.hid (Q6.out.then_ hb7)
          have HBD7 := Lib.hid (isBuilder_below HBD6.out hb7)
          have z3 : w7.cell? ⟨B2, 3, none⟩ = some (.int .u8 (p.dir : Int)) := (hb7.cell (p := ⟨B2, 3, none⟩) hB6).trans (by rw [Lib.cell_of_heap HBLK.out]; rfl)
          have hB7 : B2 < w7.heap.size := Nat.lt_of_lt_of_le hB6 hb7.size
          have b1 := Q7.out.c1
          have bs7 := Q7.out.size
          have HB1 := Lib.hid b1
          have HD2 := Lib.hid hd2
          have hd0 : (0 : Int) ≤ (p.dir : Int) := by omega
          have hd3 : (p.dir : Int) < 3 := by omega
          have hd4 : p.dir < 3 := by omega
          have hdw : (sb (dirWord p.dir)).size ≤ 8 := dirWord_len _
          have hBB : B < B2 := by have := HB2.out; omega
          have HSZ : Hid ((Lib.byteCells (done ++ ([86, 73, 65, 32] ++ p.ref))).length + ((⟨#[32]⟩ : ByteArray) ++ t ++ ⟨#[32]⟩ ++ sb (dirWord p.dir)).size ≤ 140737488355328) := by
            unfold Hid
            have h13 : p.ref.length ≤ 13 := hr13
            rw [byteCells_len, List.length_append, List.length_append]
            simp only [ByteArray.size_append]
            show done.length + (4 + p.ref.length) + (1 + t.size + 1 + _) ≤ _
            omega
          have HEQ : Hid (Lib.byteCells (done ++ ([86, 73, 65, 32] ++ p.ref)) ++ Lib.strCells ((⟨#[32]⟩ : ByteArray) ++ t ++ ⟨#[32]⟩ ++ sb (dirWord p.dir)) = Lib.byteCells (done ++ ([86, 73, 65, 32] ++ p.ref) ++ (32 :: (winOut p.lo p.hi ++ 32 :: dirWord p.dir)))) := by
            unfold Hid
            rw [byteCells_str, ← byteCells_append, bl_append, bl_append, bl_append, ht.out, bl_sb]
            simp only [bl_mk, List.append_assoc, List.cons_append, List.nil_append]
          have HDL : Hid (Hid (bl t = winOut p.lo p.hi) ∧ done.length ≤ 20 + k * 200000) := ⟨ht, hdl⟩
          clear hb7 z1 z2
          go_upto_region 12 with (fail)
          go_cut [52] (fun a wx => Hid (Lib.IsBuilderF 121 5 B B (Lib.byteCells (done ++ ([86, 73, 65, 32] ++ p.ref) ++ (32 :: (winOut p.lo p.hi ++ 32 :: dirWord p.dir)))) wx) ∧ Hid (BoxQ w nm (.slice (some ⟨g, o, none⟩) n c) wx) ∧ B < wx.heap.size)
          case first =>
            go_region_with (first | (go_at_call 70; refine (words_any _).mono ?_; rintro e w8 ⟨rfl, rfl⟩; have hdc := dirWord_cell HD2.out) | (go_at_call 68; go_loud (refine (Any.Builder_WriteString_k Tryz.lays166 Tryz.Builder_Extra_166 B B _ _ _ (isBuilder_below HBD7.out (by repeat (first | exact Below.refl _ _ | refine Below.drew ?_ | refine Below.alloc ?_ (by simp) _ | refine below_drewN' ?_ _))) HSZ.out (by simp; omega)).mono ?_); rintro e w9 ⟨rfl, hbd9, hbl9, _⟩; have HBD9 := Lib.hid hbd9; have HBL9 := Lib.hid hbl9; clear hbd9 hbl9))
            all_goals
              have hsz9 : B < w9.heap.size := by have h1 := HBL9.out.size; simp at h1; omega
              have Q9 : Hid (BoxQ w nm (.slice (some ⟨g, o, none⟩) n c) w9) := Below.trans (Q7.out.then_ (by repeat (first | exact Below.refl _ _ | refine Below.drew ?_ | refine Below.alloc ?_ (by simp) _ | refine below_drewN' ?_ _))) (HBL9.out.mono (by omega))
              have HBZ : Hid (Lib.IsBuilderF 121 5 B B (Lib.byteCells (done ++ ([86, 73, 65, 32] ++ p.ref) ++ (32 :: (winOut p.lo p.hi ++ 32 :: dirWord p.dir)))) w9) := by
                have h := HBD9.out
                rw [HEQ.out] at h
                exact .inr h
              clear HBD9 HBL9
              go_wp2
              go_meet
              exact ⟨HBZ, Q9, hsz9⟩
          case rest =>
            obtain ⟨HBZ, Q9, hsz9⟩ := hcut
            have hdl2 : (done ++ ([86, 73, 65, 32] ++ p.ref) ++ (32 :: (winOut p.lo p.hi ++ 32 :: dirWord p.dir))).length ≤ 20 + k * 200000 + 150000 := by
              have h1 := winOut_len p.lo p.hi
              have h2 := dirWord_len p.dir
              have h13 : p.ref.length ≤ 13 := hr13
              have h3 := HDL.out.2
              simp only [List.length_append, List.length_cons, List.length_nil]
              omega
            have HN2 : Hid (txOut (bl nm) l = (done ++ ([86, 73, 65, 32] ++ p.ref) ++ (32 :: (winOut p.lo p.hi ++ 32 :: dirWord p.dir)) ++ [10]) ++ ptLines (l.drop (k + 1))) := by
              unfold Hid
              rw [htx.out, HST.out]
              have e : decide (n ≤ k + 1) = false := decide_eq_false (by omega)
              rw [e]
              unfold ptLine ptTail
              simp only [Bool.false_eq_true, if_false, List.append_assoc, List.cons_append, List.nil_append]
            obtain ⟨D, hD⟩ : ∃ D, done ++ ([86, 73, 65, 32] ++ p.ref) ++ (32 :: (winOut p.lo p.hi ++ 32 :: dirWord p.dir)) = D := ⟨_, rfl⟩
            rw [hD] at HBZ hdl2 HN2
            clear hD
            go_wp2_with fail
            refine (Any.Builder_WriteString_k Tryz.lays166 Tryz.Builder_Extra_166 B B _ _ _ HBZ.out (by rw [byteCells_len]; show D.length + 1 ≤ _; omega) (by omega)).mono ?_
            rintro e w10 ⟨rfl, hbd10, hbl10, _⟩
            have Q10 : Hid (BoxQ w nm (.slice (some ⟨g, o, none⟩) n c) w10) := Below.trans Q9.out (hbl10.mono (by omega))
            have HBD10 : Hid (Lib.IsBuilderF 121 5 B B (Lib.byteCells (D ++ [10])) w10) := by
              unfold Hid
              have h := hbd10
              rw [byteCells_str, ← byteCells_append] at h
              exact .inr h
            have hsz10 : B < w10.heap.size := by have := hbl10.size; omega
            clear hbd10 hbl10
            go_wp2
            go_roundw
            case rel => exact ⟨k + 1, _, by go_num, hlt, HBD10, HN2, by rw [List.length_append, List.length_singleton]; omega, Q10, hsz10⟩
            case measure => simp [intOf]; omega
        · have hi1 : (n : Int) - 1 ≤ (k : Int) := by omega
          have hdl2 : (done ++ ([86, 73, 65, 32] ++ p.ref)).length ≤ 20 + k * 200000 + 150000 := by
            have h13 : p.ref.length ≤ 13 := hr13
            simp only [List.length_append, List.length_cons, List.length_nil]
            omega
          have HN2 : Hid (txOut (bl nm) l = (done ++ ([86, 73, 65, 32] ++ p.ref) ++ [10]) ++ ptLines (l.drop (k + 1))) := by
            unfold Hid
            rw [htx.out, HST.out]
            have e : decide (n ≤ k + 1) = true := decide_eq_true (by omega)
            rw [e]
            unfold ptLine ptTail
            simp only [if_true, List.append_assoc, List.cons_append, List.nil_append]
          obtain ⟨D, hD⟩ : ∃ D, done ++ ([86, 73, 65, 32] ++ p.ref) = D := ⟨_, rfl⟩
          rw [hD] at HBD6 hdl2 HN2
          have hBB : B < B2 := by have := HB2.out; omega
          clear hD
          rw [HB2.out]
          go_wp2_with fail
          refine (Any.Builder_WriteString_k Tryz.lays166 Tryz.Builder_Extra_166 B B _ _ _ HBD6.out (by rw [byteCells_len]; show D.length + 1 ≤ _; omega) (by omega)).mono ?_
          rintro e w10 ⟨rfl, hbd10, hbl10, _⟩
          have Q10 : Hid (BoxQ w nm (.slice (some ⟨g, o, none⟩) n c) w10) := Below.trans Q6.out (hbl10.mono (by omega))
          have HBD10 : Hid (Lib.IsBuilderF 121 5 B B (Lib.byteCells (D ++ [10])) w10) := by
            unfold Hid
            have h := hbd10
            rw [byteCells_str, ← byteCells_append] at h
            exact .inr h
          have hsz10 : B < w10.heap.size := by have := hbl10.size; omega
          clear hbd10 hbl10
          go_wp2
          go_roundw
          case rel => exact ⟨k + 1, _, by go_num, hlt, HBD10, HN2, by rw [List.length_append, List.length_singleton]; omega, Q10, hsz10⟩
          case measure => simp [intOf]; omega
      · have HE : Hid (bl (⟨done.toArray⟩ : ByteArray) = txOut (bl nm) l) := by
          unfold Hid
          rw [htx.out, ptLines_end (by have := HN.out; omega), List.append_nil]; rfl
        go_wp2_with fail
        refine (Any.Builder_String_any_k Tryz.lays169 Tryz.Builder_Extra_169 B B done _ hbd.out (by omega)).mono ?_
        rintro e w10 ⟨rfl, _, hbl10, _⟩
        have Q10 : Hid (BoxQ w nm (.slice A n c) w10) := Below.trans Q4.out (hbl10.mono (by omega))
        clear hbl10
        go_wp2
        go_ret2
        exact HPOST.out _ _ _ (HC.out.trans H0.out) HE Q10.out.below
  · have e1 : (ch != 0) = true := bne_iff_ne.2 h0
    have H0 := Lib.hid h0
    clear h0
    go_wp2
    go_ret2
    exact HPOST.out _ _ _ HC.out (by unfold Hid txOut; rw [if_neg (by rw [HC.out]; exact H0.out)]; rfl) Q1.out.below
end Go.Proofs.YtinkdlmikhcpjaaGreatDoor
namespace Go.Proofs.YtinkdlmikhcpjaaGreatDoor
open Go.RowKit
set_option linter.unusedVariables false
set_option linter.unusedSimpArgs false

structure Hp where
  aw : List UInt8
  dst : List UInt8
  lo : Int
  hi : Int
def hpc (h : Hp) : List Value := [.string (sb h.aw), .string (sb h.dst), .int .i64 h.lo, .int .i64 h.hi]
def hpcells (l : List Hp) : List Value := l.flatMap hpc
theorem hpcells_snoc (l : List Hp) (h : Hp) : hpcells (l ++ [h]) = hpcells l ++ hpc h := by
  unfold hpcells; rw [List.flatMap_append]; simp
theorem hpcells_len (l : List Hp) : (hpcells l).length = l.length * 4 := by
  induction l with
  | nil => rfl
  | cons p l ih =>
    show (hpc p ++ hpcells l).length = _
    rw [List.length_append, ih, List.length_cons]
    show 4 + _ = _
    omega
theorem infoHp : (Tryz.prog.info? 81).map (fun i => (i.zero, i.size, i.bytes)) = some (some (.agg #[.string ⟨#[]⟩, .string ⟨#[]⟩, .int .i64 0, .int .i64 0]), 4, 48) := by kernel_rfl
def hopF (a : Aw) (k : Nat) : List Hp := if k + 1 < a.pts.length ∧ (a.pts.getD k noPt).dir ≠ 2 then [⟨a.name, (a.pts.getD (k + 1) noPt).ref, (a.pts.getD k noPt).lo, (a.pts.getD k noPt).hi⟩] else []
def hopB (a : Aw) (k : Nat) : List Hp := if 0 < k ∧ (a.pts.getD (k - 1) noPt).dir ≠ 1 then [⟨a.name, (a.pts.getD (k - 1) noPt).ref, (a.pts.getD (k - 1) noPt).lo, (a.pts.getD (k - 1) noPt).hi⟩] else []
def hopsOf (a : Aw) (r : List UInt8) : List Hp := if idxOf a.pts r < 0 then [] else hopF a (idxOf a.pts r).toNat ++ hopB a (idxOf a.pts r).toNat
def hopsL (L : List Aw) (r : List UInt8) : List Hp := L.flatMap fun a => hopsOf a r
theorem hopsL_step {L : List Aw} {k : Nat} (r : List UInt8) (h : k < L.length) : hopsL (L.take (k + 1)) r = hopsL (L.take k) r ++ hopsOf L[k] r := by
  unfold hopsL; rw [List.take_succ_eq_append_getElem h, List.flatMap_append]; simp
theorem hopF_len (a : Aw) (k : Nat) : (hopF a k).length ≤ 1 := by unfold hopF; split <;> simp
theorem hopB_len (a : Aw) (k : Nat) : (hopB a k).length ≤ 1 := by unfold hopB; split <;> simp
theorem hopsL_len (L : List Aw) (r : List UInt8) : (hopsL L r).length ≤ 2 * L.length := by
  induction L with
  | nil => simp [hopsL]
  | cons a L ih =>
    have e : hopsL (a :: L) r = hopsOf a r ++ hopsL L r := by unfold hopsL; rw [List.flatMap_cons]
    have h1 : (hopsOf a r).length ≤ 2 := by
      unfold hopsOf
      split
      · simp
      · rw [List.length_append]; have := hopF_len a (idxOf a.pts r).toNat; have := hopB_len a (idxOf a.pts r).toNat; omega
    rw [e, List.length_append, List.length_cons]; omega
/-- the ways of the hop ahead -/
theorem hopF_ways {a : Aw} {k : Nat} (hk : k < a.pts.length) :
    (∃ h1 : k + 1 < a.pts.length, ¬ a.pts[k].dir = 2 ∧ hopF a k = [⟨a.name, a.pts[k + 1].ref, a.pts[k].lo, a.pts[k].hi⟩]) ∨ (∃ h1 : k + 1 < a.pts.length, a.pts[k].dir = 2 ∧ hopF a k = []) ∨ (a.pts.length ≤ k + 1 ∧ hopF a k = []) := by
  unfold hopF
  by_cases h1 : k + 1 < a.pts.length
  · rw [List.getD_eq_getElem?_getD, List.getD_eq_getElem?_getD, List.getElem?_eq_getElem hk, List.getElem?_eq_getElem h1]
    by_cases h2 : a.pts[k].dir = 2
    · exact .inr (.inl ⟨h1, h2, if_neg (fun h => h.2 h2)⟩)
    · exact .inl ⟨h1, h2, if_pos ⟨h1, h2⟩⟩
  · exact .inr (.inr ⟨by omega, if_neg (fun h => h1 h.1)⟩)
theorem hopB_ways {a : Aw} {k : Nat} (hk : k < a.pts.length) :
    (∃ h1 : k - 1 < a.pts.length, 0 < k ∧ ¬ a.pts[k - 1].dir = 1 ∧ hopB a k = [⟨a.name, a.pts[k - 1].ref, a.pts[k - 1].lo, a.pts[k - 1].hi⟩]) ∨ (∃ h1 : k - 1 < a.pts.length, 0 < k ∧ a.pts[k - 1].dir = 1 ∧ hopB a k = []) ∨ (k = 0 ∧ hopB a k = []) := by
  unfold hopB
  have h1 : k - 1 < a.pts.length := by omega
  by_cases h0 : 0 < k
  · rw [List.getD_eq_getElem?_getD, List.getElem?_eq_getElem h1]
    by_cases h2 : a.pts[k - 1].dir = 1
    · exact .inr (.inl ⟨h1, h0, h2, if_neg (fun h => h.2 h2)⟩)
    · exact .inl ⟨h1, h0, h2, if_pos ⟨h0, h2⟩⟩
  · exact .inr (.inr ⟨by omega, if_neg (fun h => h0 h.1)⟩)
/-- hops in memory, in a row of hops -/
def HpsR (w : World) (v : Value) (l : List Hp) : Prop :=
  Rd w 4 v l.length (hpcells l) ∧ (l.length = 0 ∨ ∃ g o c cur z, v = .slice (some ⟨g, o, none⟩) l.length c ∧ w.heap[g]? = some (.cells cur 81 z))
theorem hpsR_own {w : World} {base : Nat} {v : Value} {l : List Hp} (h : w.ownsRow base 81 4 v l.length (hpcells l)) : HpsR w v l := by
  refine ⟨Rd.of_own h, ?_⟩
  obtain ⟨hl, ⟨rfl, h0⟩ | ⟨g, cap, cur, rfl, hb, hh, _⟩⟩ := h
  · exact .inl h0
  · exact .inr ⟨g, 0, cap, cur, _, rfl, hh⟩
def HopPost (l : List Hp) (w : World) (e : Ending) (w' : World) : Prop := ∃ v, e = .returned v ∧ HpsR w' v l ∧ Below w.heap.size w w'
set_option maxRecDepth 100000 in
set_option maxHeartbeats 8000000 in
theorem hops_index_any (v : Value) (L : List Aw) (r : ByteArray) (w : World) (h : AwsR w v L) (hL : L.length ≤ 60) :
    Calls Tryz.prog 92 #[v, .string r] w (HopPost (hopsL L (bl r)) w) := by
  obtain ⟨ip, hip, hz0, hz1, hz2⟩ := info_parts infoHp
  obtain ⟨A, c, rfl, hc, hm⟩ := h.form
  unfold maxLen at hm
  have H := Lib.hid h
  clear h
  obtain ⟨n, hnn⟩ : ∃ n, L.length = n := ⟨_, rfl⟩
  rw [hnn] at hc H hL
  rw [hnn]
  have HN := Lib.hid hnn
  clear hnn
  go_enter Tryz.func92, Tryz.ntmps92
  go_wp2
  go_loopw [5, 11] (fun ov iv wr => ∃ k : Nat, k ≤ n ∧ iv = .int .i64 k ∧ wr.ownsRow w.heap.size 81 4 ov (hopsL (L.take k) (bl r)).length (hpcells (hopsL (L.take k) (bl r))) ∧ Below w.heap.size w wr) (fun _ iv _ => n - (intOf iv).toNat)
  case atStart => exact ⟨0, Nat.zero_le _, rfl, World.ownsRow_nil _ _ _ _, Below.refl _ _⟩
  case round =>
    obtain ⟨k, hk, rfl, hown, hbr⟩ := hrel
    by_cases hlt : k < n
    · have hkl : k < L.length := by rw [HN.out]; exact hlt
      have HS := Lib.hid (hopsL_step (bl r) hkl)
      have hlen := hopsL_len (L.take k) (bl r)
      rw [List.length_take] at hlen
      obtain ⟨done, hd⟩ : ∃ d, hopsL (L.take k) (bl r) = d := ⟨_, rfl⟩
      rw [hd] at HS hown hlen
      obtain ⟨g, o, c', pv, hA, hg, x0, x1, x2, x3⟩ := H.out.at_ hkl
      rw [HN.out] at hA
      simp only [Value.slice.injEq, true_and] at hA
      obtain ⟨rfl, rfl⟩ := hA
      have k0 := (hbr.cell (p := ⟨g, o + k * 2, none⟩) hg).trans x0
      have k1 := (hbr.cell (p := ⟨g, o + k * 2 + 1, none⟩) hg).trans x1
      have P0 := Lib.hid x2
      obtain ⟨a, ha⟩ : ∃ a, L[k] = a := ⟨_, rfl⟩
      rw [ha] at k0 HS P0 x3
      have hl60 : done.length ≤ 120 := by omega
      clear x0 x1 x2 ha hkl hg hd hlen
      obtain ⟨Ap, cp, rfl, hcp, hcpm⟩ := P0.out.form
      unfold maxLen at hcpm
      have hlt1 : ∀ j, u5.ownBlock = some j → w.heap.size ≤ j ∧ j < wr.heap.size := hown.lt
      have neb : u5.ownBlock ≠ some wr.heap.size := fun h => by have := hlt1 _ h; omega
      have HLT := Lib.hid hlt1
      clear hlt1
      have hba := Lib.hid (hbr.alloc hbr.size (.cells #[.string (sb a.name), .slice Ap a.pts.length cp] 36))
      go_wp2_with fail
      refine (index_any (sb a.name) r _ a.pts _ (P0.out.below hba.out)).mono ?_
      rintro e1 w2 ⟨rfl, hb2⟩
      have HB2 := Lib.hid (hba.out.trans (hb2.mono (by simp; have := hbr.size; omega)))
      have b0 : w2.cell? ⟨wr.heap.size, 0, none⟩ = some (.string (sb a.name)) := (hb2.cell (p := ⟨wr.heap.size, 0, none⟩) (by simp)).trans (by simp [go_sem])
      have b1 : w2.cell? ⟨wr.heap.size, 1, none⟩ = some (.slice Ap a.pts.length cp) := (hb2.cell (p := ⟨wr.heap.size, 1, none⟩) (by simp)).trans (by simp [go_sem])
      have bs : wr.heap.size < w2.heap.size := Nat.lt_of_lt_of_le (by simp) hb2.size
      have hown2 := own_below (hown.alloc (.cells #[.string (sb a.name), .slice Ap a.pts.length cp] 36)) hb2
      clear hown hb2 hba k0 k1
      have hix := idxOf_bd a.pts (bl r)
      have HO : Hid (hopsOf a (bl r) = if idxOf a.pts (bl r) < 0 then [] else hopF a (idxOf a.pts (bl r)).toNat ++ hopB a (idxOf a.pts (bl r)).toNat) := rfl
      obtain ⟨ix, hx⟩ : ∃ ix, idxOf a.pts (bl r) = ix := ⟨_, rfl⟩
      rw [hx] at hix HO
      rw [hx]
      clear hx
      rcases hix with hix | ⟨i, rfl, hi⟩
      · have HE : Hid (hopsL (L.take (k + 1)) (bl r) = done) := by unfold Hid; rw [HS.out, HO.out, if_pos hix, List.append_nil]
        rw [← HE.out] at hown2
        have HOWN := Lib.hid hown2
        clear hown2
        go_wp2
        go_roundw
        case rel => exact ⟨k + 1, hlt, by go_num, HOWN.out, HB2.out⟩
        case measure => simp [intOf]; omega
      · have hF := hopF_ways hi
        have hB := hopB_ways hi
        obtain ⟨gp, op, cz, hAp, hgp, z0, z1, z2, z3⟩ := P0.out.at_ hi
        simp only [Value.slice.injEq, true_and] at hAp
        obtain ⟨rfl, rfl⟩ := hAp
        obtain ⟨F, hFe⟩ : ∃ F, hopF a i = F := ⟨_, rfl⟩
        obtain ⟨Bk, hBe⟩ : ∃ Bk, hopB a i = Bk := ⟨_, rfl⟩
        have HE : Hid (hopsL (L.take (k + 1)) (bl r) = done ++ (F ++ Bk)) := by
          unfold Hid; rw [HS.out, HO.out, if_neg (by omega), Int.toNat_natCast, hFe, hBe]
        rw [hFe] at hF
        rw [hBe] at hB
        rw [← List.append_assoc] at HE
        obtain ⟨n2, hn2⟩ : ∃ n2, a.pts.length = n2 := ⟨_, rfl⟩
        have hi2 : i < n2 := by omega
        rw [hn2] at P0 hcp b1
        have HN2 := Lib.hid hn2
        have y1 := (HB2.out.cell (p := ⟨gp, op + i * 4 + 1, none⟩) hgp).trans z1
        have y2 := (HB2.out.cell (p := ⟨gp, op + i * 4 + 2, none⟩) hgp).trans z2
        have y3 := (HB2.out.cell (p := ⟨gp, op + i * 4 + 3, none⟩) hgp).trans z3
        have nep : u5.ownBlock ≠ some gp := fun h => by have := (HLT.out _ h).1; omega
        have HOWN2 := Lib.hid hown2
        have HLT2 : Hid (∀ j, u5.ownBlock = some j → w.heap.size ≤ j ∧ j < w2.heap.size) := fun j hj => ⟨(HLT.out j hj).1, by have := (HLT.out j hj).2; omega⟩
        have hd121 : done.length ≤ 121 := by omega
        have g0 : (0 : Int) ≤ (i : Int) := by omega
        have g1 : (i : Int) < (n2 : Int) := by omega
        have hwr : w.heap.size ≤ wr.heap.size := hbr.size
        rcases hF with ⟨h1, hdF, rfl⟩ | ⟨h1, hdF, rfl⟩ | ⟨h1, rfl⟩
        · obtain ⟨gq, oq, cq, hAq, _, v0, v1, v2, v3⟩ := P0.out.at_ h1
          rw [hn2] at hAq
          simp only [Value.slice.injEq, Option.some.injEq, Addr.mk.injEq, and_true, true_and] at hAq
          obtain ⟨⟨rfl, rfl⟩, rfl⟩ := hAq
          have y4 := (HB2.out.cell (p := ⟨gp, op + (i + 1) * 4, none⟩) hgp).trans v0
          have h1' : i + 1 < n2 := by omega
          obtain ⟨pf, hpf⟩ : ∃ pf, a.pts[i] = pf := ⟨_, rfl⟩
          obtain ⟨qf, hqf⟩ : ∃ qf, a.pts[i + 1] = qf := ⟨_, rfl⟩
          rw [hpf] at y1 y2 y3 hdF HE
          rw [hqf] at y4 HE
          clear v0 v1 v2 v3 z0 z1 z2 z3 hpf hqf h1 hFe hBe hn2
          have f1 : (i : Int) + 1 < (n2 : Int) := by omega
          have f2 : (i : Int) < (n2 : Int) - 1 := by omega
          have e3 : ((pf.dir : Int) != 2) = true := bne_iff_ne.2 (by omega)
          have e4 : ((pf.dir : Int) == 2) = false := beq_eq_false_iff_ne.2 (by omega)
          clear hdF
          go_wp2
          have f3 : (0 : Int) ≤ (i : Int) + 1 := by omega
          have f4 : ((i : Int) + 1).toNat = i + 1 := by omega
          have f5 : IntKind.i64.wrap ((i : Int) + 1) = (i : Int) + 1 := IntWalk.i64_in _ (by omega)
          go_region_held3 (fun wx => wx.cell? ⟨wr.heap.size, 0, none⟩ = some (.string (sb a.name)) ∧ wx.cell? ⟨wr.heap.size, 1, none⟩ = some (.slice (some ⟨gp, op, none⟩) n2 cp) ∧ wx.cell? ⟨gp, op + (i + 1) * 4, none⟩ = some (.string (sb qf.ref)) ∧ wx.cell? ⟨gp, op + i * 4 + 1, none⟩ = some (.int .i64 pf.lo) ∧ wx.cell? ⟨gp, op + i * 4 + 2, none⟩ = some (.int .i64 pf.hi))
            (first
              | go_keep
              | (go_split_ands
                 refine ⟨?_, ?_, ?_, ?_, ?_⟩
                 · (rw [hgrow.cell_far _ (by simp; omega) (Ne.symm neb)]; assumption)
                 · (rw [hgrow.cell_far _ (by simp; omega) (Ne.symm neb)]; assumption)
                 · (rw [hgrow.cell_far _ (by simp; omega) (Ne.symm nep)]; assumption)
                 · (rw [hgrow.cell_far _ (by simp; omega) (Ne.symm nep)]; assumption)
                 · (rw [hgrow.cell_far _ (by simp; omega) (Ne.symm nep)]; assumption)))
            ((refine step_append_lies _ (by rfl) _ _ _ (by rfl) w.heap.size 81 ip (.agg #[.string ⟨#[]⟩, .string ⟨#[]⟩, .int .i64 0, .int .i64 0]) 4 48 Tryz.underlying75 hip hz0 hz1 hz2 rfl (by omega) u5 done.length (hpcells done) (by rfl) ((hown2.alloc _).drew) ⟨w2.heap.size, 0, none⟩ 1 1 [.string (sb a.name), .string (sb qf.ref), .int .i64 pf.lo, .int .i64 pf.hi] (by rfl) (by rfl) (World.news_of_block (cs := #[.string (sb a.name), .string (sb qf.ref), .int .i64 pf.lo, .int .i64 pf.hi]) (t := 81) (fr := (0, 0)) (heap_alloc_new w2 _)) (by simp [Value.oneCell']) (by omega) (by unfold maxLen; omega) (by omega) (by simp; omega) (w2.heap.size + 1) (by simp) ?_; intro gg cap w3 hown3 hgrow hat hlt3))
          have HB3 := Lib.hid ((((HB2.out.alloc (by omega) _).drew).grown hgrow (by simp; omega) (fun j hj => (HLT.out j hj).1)) : Below w.heap.size w w3)
          obtain ⟨c0, c1, c2, c3, c4⟩ := ‹w3.cell? _ = _ ∧ _ ∧ _ ∧ _ ∧ _›
          have hs3 := hgrow.size
          have bs3 : w2.heap.size + 1 ≤ w3.heap.size := by simp at hs3; omega
          have hgg : w.heap.size ≤ gg ∧ gg ≠ wr.heap.size := by
            rcases hat with h | h
            · have h2 := HLT.out _ h; omega
            · omega
          have HOWN3 : Hid (w3.ownsRow w.heap.size 81 4 (.slice (some ⟨gg, 0, none⟩) (done.length + 1) cap) (done ++ [(⟨a.name, qf.ref, pf.lo, pf.hi⟩ : Hp)]).length (hpcells (done ++ [(⟨a.name, qf.ref, pf.lo, pf.hi⟩ : Hp)]))) := by
            unfold Hid
            rw [hpcells_snoc, List.length_append]
            exact hown3
          have HLT3 : Hid (∀ j, (Value.slice (some ⟨gg, 0, none⟩) (done.length + 1) cap).ownBlock = some j → w.heap.size ≤ j ∧ j < w3.heap.size) := fun j hj => by
            have e : gg = j := by simpa [Value.ownBlock] using hj
            omega
          have neb2 : (Value.slice (some ⟨gg, 0, none⟩) (done.length + 1) cap).ownBlock ≠ some wr.heap.size := fun h => by
            have e : gg = wr.heap.size := by simpa [Value.ownBlock] using h
            omega
          have nep2 : (Value.slice (some ⟨gg, 0, none⟩) (done.length + 1) cap).ownBlock ≠ some gp := fun h => by
            have e : gg = gp := by simpa [Value.ownBlock] using h
            omega
          obtain ⟨D, hD⟩ : ∃ D, done ++ [(⟨a.name, qf.ref, pf.lo, pf.hi⟩ : Hp)] = D := ⟨_, rfl⟩
          rw [hD] at HE HOWN3
          have hDl : done.length + 1 = D.length := by rw [← hD, List.length_append]; rfl
          rw [hDl] at HOWN3 HLT3 neb2 nep2 ⊢
          have hD121 : D.length ≤ 121 := by omega
          clear hown3 hgrow hat hown2 hs3 b0 b1 y1 y2 y3 y4 hD hDl c2 c3 c4 f4 f5
          rcases hB with ⟨h1, hi0, hd1, rfl⟩ | ⟨h1, hi0, hd1, rfl⟩ | ⟨hi0, rfl⟩
          · obtain ⟨gq, oq, cq, hAq, _, z0, z1, z2, z3⟩ := P0.out.at_ h1
            rw [HN2.out] at hAq
            simp only [Value.slice.injEq, Option.some.injEq, Addr.mk.injEq, and_true, true_and] at hAq
            obtain ⟨⟨rfl, rfl⟩, rfl⟩ := hAq
            have t0 := (HB3.out.cell (p := ⟨gp, op + (i - 1) * 4, none⟩) hgp).trans z0
            have t1 := (HB3.out.cell (p := ⟨gp, op + (i - 1) * 4 + 1, none⟩) hgp).trans z1
            have t2 := (HB3.out.cell (p := ⟨gp, op + (i - 1) * 4 + 2, none⟩) hgp).trans z2
            have t3 := (HB3.out.cell (p := ⟨gp, op + (i - 1) * 4 + 3, none⟩) hgp).trans z3
            obtain ⟨q, hq⟩ : ∃ q, a.pts[i - 1] = q := ⟨_, rfl⟩
            rw [hq] at t0 t1 t2 t3 hd1 HE
            clear z0 z1 z2 z3 hq h1
            have s0 : (0 : Int) < (i : Int) := by omega
            have s1 : (1 : Int) ≤ (i : Int) := by omega
            have s2 : (0 : Int) ≤ (i : Int) - 1 := by omega
            have s3 : (i : Int) - 1 < (n2 : Int) := by omega
            have s4 : (i : Int) < (n2 : Int) + 1 := by omega
            have s5 : (i : Int) ≤ (n2 : Int) := by omega
            have s6 : 1 ≤ i := by omega
            have s7 : 0 < i := by omega
            have e5 : ((q.dir : Int) != 1) = true := bne_iff_ne.2 (by omega)
            have e6 : ((q.dir : Int) == 1) = false := beq_eq_false_iff_ne.2 (by omega)
            clear hd1 hi0
            go_wp2
            have s8 : ((i : Int) - 1).toNat = i - 1 := by omega
            have s9 : IntKind.i64.wrap ((i : Int) - 1) = (i : Int) - 1 := IntWalk.i64_in _ (by omega)
            have ownB := HOWN3.out
            go_region_held3 (fun wx => wx.cell? ⟨wr.heap.size, 0, none⟩ = some (.string (sb a.name)) ∧ wx.cell? ⟨wr.heap.size, 1, none⟩ = some (.slice (some ⟨gp, op, none⟩) n2 cp) ∧ wx.cell? ⟨gp, op + (i - 1) * 4, none⟩ = some (.string (sb q.ref)) ∧ wx.cell? ⟨gp, op + (i - 1) * 4 + 1, none⟩ = some (.int .i64 q.lo) ∧ wx.cell? ⟨gp, op + (i - 1) * 4 + 2, none⟩ = some (.int .i64 q.hi))
              (first
                | go_keep
                | (go_split_ands
                   refine ⟨?_, ?_, ?_, ?_, ?_⟩
                   · (rw [hgrowB.cell_far _ (by simp; omega) (Ne.symm neb2)]; assumption)
                   · (rw [hgrowB.cell_far _ (by simp; omega) (Ne.symm neb2)]; assumption)
                   · (rw [hgrowB.cell_far _ (by simp; omega) (Ne.symm nep2)]; assumption)
                   · (rw [hgrowB.cell_far _ (by simp; omega) (Ne.symm nep2)]; assumption)
                   · (rw [hgrowB.cell_far _ (by simp; omega) (Ne.symm nep2)]; assumption)))
              ((refine step_append_lies _ (by rfl) _ _ _ (by rfl) w.heap.size 81 ip (.agg #[.string ⟨#[]⟩, .string ⟨#[]⟩, .int .i64 0, .int .i64 0]) 4 48 Tryz.underlying75 hip hz0 hz1 hz2 rfl (by omega) (.slice (some ⟨gg, 0, none⟩) D.length cap) D.length (hpcells D) (by rfl) ((ownB.alloc _).drew) ⟨w3.heap.size, 0, none⟩ 1 1 [.string (sb a.name), .string (sb q.ref), .int .i64 q.lo, .int .i64 q.hi] (by rfl) (by rfl) (World.news_of_block (cs := #[.string (sb a.name), .string (sb q.ref), .int .i64 q.lo, .int .i64 q.hi]) (t := 81) (fr := (0, 0)) (heap_alloc_new w3 _)) (by simp [Value.oneCell']) (by omega) (by unfold maxLen; omega) (by omega) (by simp; omega) (w3.heap.size + 1) (by simp) ?_; intro ggB capB w3B hown3B hgrowB hatB hlt3B))
            have HBZ := Lib.hid ((((HB3.out.alloc (by omega) _).drew).grown hgrowB (by simp; omega) (fun j hj => (HLT3.out j hj).1)) : Below w.heap.size w w3B)
            have HOZ : Hid (w3B.ownsRow w.heap.size 81 4 (.slice (some ⟨ggB, 0, none⟩) (D.length + 1) capB) (hopsL (L.take (k + 1)) (bl r)).length (hpcells (hopsL (L.take (k + 1)) (bl r)))) := by
              unfold Hid
              rw [HE.out, hpcells_snoc, List.length_append]
              exact hown3B
            clear ownB hown3B hgrowB hatB
            go_wp2
            go_roundw
            case rel => exact ⟨k + 1, hlt, by go_num, HOZ.out, HBZ.out⟩
            case measure => simp [intOf]; omega
          · obtain ⟨gq, oq, cq, hAq, _, z0, z1, z2, z3⟩ := P0.out.at_ h1
            rw [HN2.out] at hAq
            simp only [Value.slice.injEq, Option.some.injEq, Addr.mk.injEq, and_true, true_and] at hAq
            obtain ⟨⟨rfl, rfl⟩, rfl⟩ := hAq
            have t0 := (HB3.out.cell (p := ⟨gp, op + (i - 1) * 4, none⟩) hgp).trans z0
            have t1 := (HB3.out.cell (p := ⟨gp, op + (i - 1) * 4 + 1, none⟩) hgp).trans z1
            have t2 := (HB3.out.cell (p := ⟨gp, op + (i - 1) * 4 + 2, none⟩) hgp).trans z2
            have t3 := (HB3.out.cell (p := ⟨gp, op + (i - 1) * 4 + 3, none⟩) hgp).trans z3
            obtain ⟨q, hq⟩ : ∃ q, a.pts[i - 1] = q := ⟨_, rfl⟩
            rw [hq] at t0 t1 t2 t3 hd1 
            clear z0 z1 z2 z3 hq h1
            have s0 : (0 : Int) < (i : Int) := by omega
            have s1 : (1 : Int) ≤ (i : Int) := by omega
            have s2 : (0 : Int) ≤ (i : Int) - 1 := by omega
            have s3 : (i : Int) - 1 < (n2 : Int) := by omega
            have s4 : (i : Int) < (n2 : Int) + 1 := by omega
            have s5 : (i : Int) ≤ (n2 : Int) := by omega
            have s6 : 1 ≤ i := by omega
            have s7 : 0 < i := by omega
            have e5 : ((q.dir : Int) != 1) = false := bne_eq_false_iff_eq.2 (by omega)
            have e6 : ((q.dir : Int) == 1) = true := beq_iff_eq.2 (by omega)
            clear hd1 hi0
            rw [List.append_nil] at HE
            have HOZ : Hid (w3.ownsRow w.heap.size 81 4 (.slice (some ⟨gg, 0, none⟩) D.length cap) (hopsL (L.take (k + 1)) (bl r)).length (hpcells (hopsL (L.take (k + 1)) (bl r)))) := by
              unfold Hid
              rw [HE.out]
              exact HOWN3.out
            go_wp2
            go_roundw
            case rel => exact ⟨k + 1, hlt, by go_num, HOZ.out, HB3.out⟩
            case measure => simp [intOf]; omega
          · have s0 : (i : Int) ≤ 0 := by omega
            have s1 : (i : Int) < 1 := by omega
            have s2 : i < 1 := by omega
            have HI0 := Lib.hid hi0
            clear hi0
            rw [List.append_nil] at HE
            have HOZ : Hid (w3.ownsRow w.heap.size 81 4 (.slice (some ⟨gg, 0, none⟩) D.length cap) (hopsL (L.take (k + 1)) (bl r)).length (hpcells (hopsL (L.take (k + 1)) (bl r)))) := by
              unfold Hid
              rw [HE.out]
              exact HOWN3.out
            go_wp2
            go_roundw
            case rel => exact ⟨k + 1, hlt, by go_num, HOZ.out, HB3.out⟩
            case measure => simp [intOf]; omega
        · have h1' : i + 1 < n2 := by omega
          obtain ⟨pf, hpf⟩ : ∃ pf, a.pts[i] = pf := ⟨_, rfl⟩
          rw [hpf] at y1 y2 y3 hdF
          clear z0 z1 z2 z3 hpf h1 hFe hBe hn2
          have f1 : (i : Int) + 1 < (n2 : Int) := by omega
          have f2 : (i : Int) < (n2 : Int) - 1 := by omega
          have e3 : ((pf.dir : Int) != 2) = false := bne_eq_false_iff_eq.2 (by omega)
          have e4 : ((pf.dir : Int) == 2) = true := beq_iff_eq.2 (by omega)
          rw [List.append_nil] at HE
          clear hdF hown2
          rcases hB with ⟨h1, hi0, hd1, rfl⟩ | ⟨h1, hi0, hd1, rfl⟩ | ⟨hi0, rfl⟩
          · obtain ⟨gq, oq, cq, hAq, _, z0, z1, z2, z3⟩ := P0.out.at_ h1
            rw [HN2.out] at hAq
            simp only [Value.slice.injEq, Option.some.injEq, Addr.mk.injEq, and_true, true_and] at hAq
            obtain ⟨⟨rfl, rfl⟩, rfl⟩ := hAq
            have t0 := (HB2.out.cell (p := ⟨gp, op + (i - 1) * 4, none⟩) hgp).trans z0
            have t1 := (HB2.out.cell (p := ⟨gp, op + (i - 1) * 4 + 1, none⟩) hgp).trans z1
            have t2 := (HB2.out.cell (p := ⟨gp, op + (i - 1) * 4 + 2, none⟩) hgp).trans z2
            have t3 := (HB2.out.cell (p := ⟨gp, op + (i - 1) * 4 + 3, none⟩) hgp).trans z3
            obtain ⟨q, hq⟩ : ∃ q, a.pts[i - 1] = q := ⟨_, rfl⟩
            rw [hq] at t0 t1 t2 t3 hd1 HE
            clear z0 z1 z2 z3 hq h1
            have s0 : (0 : Int) < (i : Int) := by omega
            have s1 : (1 : Int) ≤ (i : Int) := by omega
            have s2 : (0 : Int) ≤ (i : Int) - 1 := by omega
            have s3 : (i : Int) - 1 < (n2 : Int) := by omega
            have s4 : (i : Int) < (n2 : Int) + 1 := by omega
            have s5 : (i : Int) ≤ (n2 : Int) := by omega
            have s6 : 1 ≤ i := by omega
            have s7 : 0 < i := by omega
            have e5 : ((q.dir : Int) != 1) = true := bne_iff_ne.2 (by omega)
            have e6 : ((q.dir : Int) == 1) = false := beq_eq_false_iff_ne.2 (by omega)
            clear hd1 hi0
            go_wp2
            have s8 : ((i : Int) - 1).toNat = i - 1 := by omega
            have s9 : IntKind.i64.wrap ((i : Int) - 1) = (i : Int) - 1 := IntWalk.i64_in _ (by omega)
            have ownB := HOWN2.out
            go_region_held3 (fun wx => wx.cell? ⟨wr.heap.size, 0, none⟩ = some (.string (sb a.name)) ∧ wx.cell? ⟨wr.heap.size, 1, none⟩ = some (.slice (some ⟨gp, op, none⟩) n2 cp) ∧ wx.cell? ⟨gp, op + (i - 1) * 4, none⟩ = some (.string (sb q.ref)) ∧ wx.cell? ⟨gp, op + (i - 1) * 4 + 1, none⟩ = some (.int .i64 q.lo) ∧ wx.cell? ⟨gp, op + (i - 1) * 4 + 2, none⟩ = some (.int .i64 q.hi))
              (first
                | go_keep
                | (go_split_ands
                   refine ⟨?_, ?_, ?_, ?_, ?_⟩
                   · (rw [hgrowB.cell_far _ (by simp; omega) (Ne.symm neb)]; assumption)
                   · (rw [hgrowB.cell_far _ (by simp; omega) (Ne.symm neb)]; assumption)
                   · (rw [hgrowB.cell_far _ (by simp; omega) (Ne.symm nep)]; assumption)
                   · (rw [hgrowB.cell_far _ (by simp; omega) (Ne.symm nep)]; assumption)
                   · (rw [hgrowB.cell_far _ (by simp; omega) (Ne.symm nep)]; assumption)))
              ((refine step_append_lies _ (by rfl) _ _ _ (by rfl) w.heap.size 81 ip (.agg #[.string ⟨#[]⟩, .string ⟨#[]⟩, .int .i64 0, .int .i64 0]) 4 48 Tryz.underlying75 hip hz0 hz1 hz2 rfl (by omega) u5 done.length (hpcells done) (by rfl) ((ownB.alloc _).drew) ⟨w2.heap.size, 0, none⟩ 1 1 [.string (sb a.name), .string (sb q.ref), .int .i64 q.lo, .int .i64 q.hi] (by rfl) (by rfl) (World.news_of_block (cs := #[.string (sb a.name), .string (sb q.ref), .int .i64 q.lo, .int .i64 q.hi]) (t := 81) (fr := (0, 0)) (heap_alloc_new w2 _)) (by simp [Value.oneCell']) (by omega) (by unfold maxLen; omega) (by omega) (by simp; omega) (w2.heap.size + 1) (by simp) ?_; intro ggB capB w3B hown3B hgrowB hatB hlt3B))
            have HBZ := Lib.hid ((((HB2.out.alloc (by omega) _).drew).grown hgrowB (by simp; omega) (fun j hj => (HLT2.out j hj).1)) : Below w.heap.size w w3B)
            have HOZ : Hid (w3B.ownsRow w.heap.size 81 4 (.slice (some ⟨ggB, 0, none⟩) (done.length + 1) capB) (hopsL (L.take (k + 1)) (bl r)).length (hpcells (hopsL (L.take (k + 1)) (bl r)))) := by
              unfold Hid
              rw [HE.out, hpcells_snoc, List.length_append]
              exact hown3B
            clear ownB hown3B hgrowB hatB
            go_wp2
            go_roundw
            case rel => exact ⟨k + 1, hlt, by go_num, HOZ.out, HBZ.out⟩
            case measure => simp [intOf]; omega
          · obtain ⟨gq, oq, cq, hAq, _, z0, z1, z2, z3⟩ := P0.out.at_ h1
            rw [HN2.out] at hAq
            simp only [Value.slice.injEq, Option.some.injEq, Addr.mk.injEq, and_true, true_and] at hAq
            obtain ⟨⟨rfl, rfl⟩, rfl⟩ := hAq
            have t0 := (HB2.out.cell (p := ⟨gp, op + (i - 1) * 4, none⟩) hgp).trans z0
            have t1 := (HB2.out.cell (p := ⟨gp, op + (i - 1) * 4 + 1, none⟩) hgp).trans z1
            have t2 := (HB2.out.cell (p := ⟨gp, op + (i - 1) * 4 + 2, none⟩) hgp).trans z2
            have t3 := (HB2.out.cell (p := ⟨gp, op + (i - 1) * 4 + 3, none⟩) hgp).trans z3
            obtain ⟨q, hq⟩ : ∃ q, a.pts[i - 1] = q := ⟨_, rfl⟩
            rw [hq] at t0 t1 t2 t3 hd1 
            clear z0 z1 z2 z3 hq h1
            have s0 : (0 : Int) < (i : Int) := by omega
            have s1 : (1 : Int) ≤ (i : Int) := by omega
            have s2 : (0 : Int) ≤ (i : Int) - 1 := by omega
            have s3 : (i : Int) - 1 < (n2 : Int) := by omega
            have s4 : (i : Int) < (n2 : Int) + 1 := by omega
            have s5 : (i : Int) ≤ (n2 : Int) := by omega
            have s6 : 1 ≤ i := by omega
            have s7 : 0 < i := by omega
            have e5 : ((q.dir : Int) != 1) = false := bne_eq_false_iff_eq.2 (by omega)
            have e6 : ((q.dir : Int) == 1) = true := beq_iff_eq.2 (by omega)
            clear hd1 hi0
            rw [List.append_nil] at HE
            have HOZ : Hid (w2.ownsRow w.heap.size 81 4 u5 (hopsL (L.take (k + 1)) (bl r)).length (hpcells (hopsL (L.take (k + 1)) (bl r)))) := by
              unfold Hid
              rw [HE.out]
              exact HOWN2.out
            go_wp2
            go_roundw
            case rel => exact ⟨k + 1, hlt, by go_num, HOZ.out, HB2.out⟩
            case measure => simp [intOf]; omega
          · have s0 : (i : Int) ≤ 0 := by omega
            have s1 : (i : Int) < 1 := by omega
            have s2 : i < 1 := by omega
            have HI0 := Lib.hid hi0
            clear hi0
            rw [List.append_nil] at HE
            have HOZ : Hid (w2.ownsRow w.heap.size 81 4 u5 (hopsL (L.take (k + 1)) (bl r)).length (hpcells (hopsL (L.take (k + 1)) (bl r)))) := by
              unfold Hid
              rw [HE.out]
              exact HOWN2.out
            go_wp2
            go_roundw
            case rel => exact ⟨k + 1, hlt, by go_num, HOZ.out, HB2.out⟩
            case measure => simp [intOf]; omega
        · have f1 : (n2 : Int) ≤ (i : Int) + 1 := by omega
          have f2 : (n2 : Int) - 1 ≤ (i : Int) := by omega
          rw [List.append_nil] at HE
          clear z0 z1 z2 z3 h1 hFe hBe hn2 hown2
          rcases hB with ⟨h1, hi0, hd1, rfl⟩ | ⟨h1, hi0, hd1, rfl⟩ | ⟨hi0, rfl⟩
          · obtain ⟨gq, oq, cq, hAq, _, z0, z1, z2, z3⟩ := P0.out.at_ h1
            rw [HN2.out] at hAq
            simp only [Value.slice.injEq, Option.some.injEq, Addr.mk.injEq, and_true, true_and] at hAq
            obtain ⟨⟨rfl, rfl⟩, rfl⟩ := hAq
            have t0 := (HB2.out.cell (p := ⟨gp, op + (i - 1) * 4, none⟩) hgp).trans z0
            have t1 := (HB2.out.cell (p := ⟨gp, op + (i - 1) * 4 + 1, none⟩) hgp).trans z1
            have t2 := (HB2.out.cell (p := ⟨gp, op + (i - 1) * 4 + 2, none⟩) hgp).trans z2
            have t3 := (HB2.out.cell (p := ⟨gp, op + (i - 1) * 4 + 3, none⟩) hgp).trans z3
            obtain ⟨q, hq⟩ : ∃ q, a.pts[i - 1] = q := ⟨_, rfl⟩
            rw [hq] at t0 t1 t2 t3 hd1 HE
            clear z0 z1 z2 z3 hq h1
            have s0 : (0 : Int) < (i : Int) := by omega
            have s1 : (1 : Int) ≤ (i : Int) := by omega
            have s2 : (0 : Int) ≤ (i : Int) - 1 := by omega
            have s3 : (i : Int) - 1 < (n2 : Int) := by omega
            have s4 : (i : Int) < (n2 : Int) + 1 := by omega
            have s5 : (i : Int) ≤ (n2 : Int) := by omega
            have s6 : 1 ≤ i := by omega
            have s7 : 0 < i := by omega
            have e5 : ((q.dir : Int) != 1) = true := bne_iff_ne.2 (by omega)
            have e6 : ((q.dir : Int) == 1) = false := beq_eq_false_iff_ne.2 (by omega)
            clear hd1 hi0
            go_wp2
            have s8 : ((i : Int) - 1).toNat = i - 1 := by omega
            have s9 : IntKind.i64.wrap ((i : Int) - 1) = (i : Int) - 1 := IntWalk.i64_in _ (by omega)
            have ownB := HOWN2.out
            go_region_held3 (fun wx => wx.cell? ⟨wr.heap.size, 0, none⟩ = some (.string (sb a.name)) ∧ wx.cell? ⟨wr.heap.size, 1, none⟩ = some (.slice (some ⟨gp, op, none⟩) n2 cp) ∧ wx.cell? ⟨gp, op + (i - 1) * 4, none⟩ = some (.string (sb q.ref)) ∧ wx.cell? ⟨gp, op + (i - 1) * 4 + 1, none⟩ = some (.int .i64 q.lo) ∧ wx.cell? ⟨gp, op + (i - 1) * 4 + 2, none⟩ = some (.int .i64 q.hi))
              (first
                | go_keep
                | (go_split_ands
                   refine ⟨?_, ?_, ?_, ?_, ?_⟩
                   · (rw [hgrowB.cell_far _ (by simp; omega) (Ne.symm neb)]; assumption)
                   · (rw [hgrowB.cell_far _ (by simp; omega) (Ne.symm neb)]; assumption)
                   · (rw [hgrowB.cell_far _ (by simp; omega) (Ne.symm nep)]; assumption)
                   · (rw [hgrowB.cell_far _ (by simp; omega) (Ne.symm nep)]; assumption)
                   · (rw [hgrowB.cell_far _ (by simp; omega) (Ne.symm nep)]; assumption)))
              ((refine step_append_lies _ (by rfl) _ _ _ (by rfl) w.heap.size 81 ip (.agg #[.string ⟨#[]⟩, .string ⟨#[]⟩, .int .i64 0, .int .i64 0]) 4 48 Tryz.underlying75 hip hz0 hz1 hz2 rfl (by omega) u5 done.length (hpcells done) (by rfl) ((ownB.alloc _).drew) ⟨w2.heap.size, 0, none⟩ 1 1 [.string (sb a.name), .string (sb q.ref), .int .i64 q.lo, .int .i64 q.hi] (by rfl) (by rfl) (World.news_of_block (cs := #[.string (sb a.name), .string (sb q.ref), .int .i64 q.lo, .int .i64 q.hi]) (t := 81) (fr := (0, 0)) (heap_alloc_new w2 _)) (by simp [Value.oneCell']) (by omega) (by unfold maxLen; omega) (by omega) (by simp; omega) (w2.heap.size + 1) (by simp) ?_; intro ggB capB w3B hown3B hgrowB hatB hlt3B))
            have HBZ := Lib.hid ((((HB2.out.alloc (by omega) _).drew).grown hgrowB (by simp; omega) (fun j hj => (HLT2.out j hj).1)) : Below w.heap.size w w3B)
            have HOZ : Hid (w3B.ownsRow w.heap.size 81 4 (.slice (some ⟨ggB, 0, none⟩) (done.length + 1) capB) (hopsL (L.take (k + 1)) (bl r)).length (hpcells (hopsL (L.take (k + 1)) (bl r)))) := by
              unfold Hid
              rw [HE.out, hpcells_snoc, List.length_append]
              exact hown3B
            clear ownB hown3B hgrowB hatB
            go_wp2
            go_roundw
            case rel => exact ⟨k + 1, hlt, by go_num, HOZ.out, HBZ.out⟩
            case measure => simp [intOf]; omega
          · obtain ⟨gq, oq, cq, hAq, _, z0, z1, z2, z3⟩ := P0.out.at_ h1
            rw [HN2.out] at hAq
            simp only [Value.slice.injEq, Option.some.injEq, Addr.mk.injEq, and_true, true_and] at hAq
            obtain ⟨⟨rfl, rfl⟩, rfl⟩ := hAq
            have t0 := (HB2.out.cell (p := ⟨gp, op + (i - 1) * 4, none⟩) hgp).trans z0
            have t1 := (HB2.out.cell (p := ⟨gp, op + (i - 1) * 4 + 1, none⟩) hgp).trans z1
            have t2 := (HB2.out.cell (p := ⟨gp, op + (i - 1) * 4 + 2, none⟩) hgp).trans z2
            have t3 := (HB2.out.cell (p := ⟨gp, op + (i - 1) * 4 + 3, none⟩) hgp).trans z3
            obtain ⟨q, hq⟩ : ∃ q, a.pts[i - 1] = q := ⟨_, rfl⟩
            rw [hq] at t0 t1 t2 t3 hd1 
            clear z0 z1 z2 z3 hq h1
            have s0 : (0 : Int) < (i : Int) := by omega
            have s1 : (1 : Int) ≤ (i : Int) := by omega
            have s2 : (0 : Int) ≤ (i : Int) - 1 := by omega
            have s3 : (i : Int) - 1 < (n2 : Int) := by omega
            have s4 : (i : Int) < (n2 : Int) + 1 := by omega
            have s5 : (i : Int) ≤ (n2 : Int) := by omega
            have s6 : 1 ≤ i := by omega
            have s7 : 0 < i := by omega
            have e5 : ((q.dir : Int) != 1) = false := bne_eq_false_iff_eq.2 (by omega)
            have e6 : ((q.dir : Int) == 1) = true := beq_iff_eq.2 (by omega)
            clear hd1 hi0
            rw [List.append_nil] at HE
            have HOZ : Hid (w2.ownsRow w.heap.size 81 4 u5 (hopsL (L.take (k + 1)) (bl r)).length (hpcells (hopsL (L.take (k + 1)) (bl r)))) := by
              unfold Hid
              rw [HE.out]
              exact HOWN2.out
            go_wp2
            go_roundw
            case rel => exact ⟨k + 1, hlt, by go_num, HOZ.out, HB2.out⟩
            case measure => simp [intOf]; omega
          · have s0 : (i : Int) ≤ 0 := by omega
            have s1 : (i : Int) < 1 := by omega
            have s2 : i < 1 := by omega
            have HI0 := Lib.hid hi0
            clear hi0
            rw [List.append_nil] at HE
            have HOZ : Hid (w2.ownsRow w.heap.size 81 4 u5 (hopsL (L.take (k + 1)) (bl r)).length (hpcells (hopsL (L.take (k + 1)) (bl r)))) := by
              unfold Hid
              rw [HE.out]
              exact HOWN2.out
            go_wp2
            go_roundw
            case rel => exact ⟨k + 1, hlt, by go_num, HOZ.out, HB2.out⟩
            case measure => simp [intOf]; omega
    · have HF : Hid (L.take k = L) := List.take_of_length_le (by have := HN.out; omega)
      rw [HF.out] at hown
      have hrd := Lib.hid (hpsR_own hown)
      clear hown
      go_wp2
      go_ret
      exact ⟨_, rfl, hrd.out, hbr⟩
end Go.Proofs.YtinkdlmikhcpjaaGreatDoor
namespace Go.Proofs.YtinkdlmikhcpjaaGreatDoor
open Go.RowKit
set_option linter.unusedVariables false
set_option linter.unusedSimpArgs false

theorem hpcells_at (l : List Hp) : ∀ (k : Nat) (h : k < l.length), (hpcells l)[k * 4]? = some (.string (sb l[k].aw)) ∧ (hpcells l)[k * 4 + 1]? = some (.string (sb l[k].dst)) ∧ (hpcells l)[k * 4 + 2]? = some (.int .i64 l[k].lo) ∧ (hpcells l)[k * 4 + 3]? = some (.int .i64 l[k].hi) := by
  induction l with
  | nil => intro k h; simp at h
  | cons p l ih =>
    intro k h
    cases k with
    | zero => exact ⟨rfl, rfl, rfl, rfl⟩
    | succ k =>
      have := ih k (by simpa using h)
      rw [show (k + 1) * 4 = k * 4 + 4 by omega]
      exact this
theorem HpsR.form {w : World} {v : Value} {l : List Hp} (h : HpsR w v l) : ∃ A c, v = .slice A l.length c ∧ l.length ≤ c ∧ c ≤ maxLen := h.1.form
theorem HpsR.below {w w' : World} {v : Value} {l : List Hp} (h : HpsR w v l) (hb : Below w.heap.size w w') : HpsR w' v l := by
  refine ⟨h.1.below hb, ?_⟩
  rcases h.2 with h0 | ⟨g, o, c, cur, z, hv, hh⟩
  · exact .inl h0
  · exact .inr ⟨g, o, c, cur, z, hv, (hb.block g (Array.getElem?_eq_some_iff.1 hh).1).trans hh⟩
theorem HpsR.nil (w : World) : HpsR w (.slice none 0 0) [] := ⟨Rd.nil w 4, .inl rfl⟩
/-- a write to a block that is no row of hops -/
theorem HpsR.grown {w w' : World} {v : Value} {l : List Hp} {row : Option Nat} (h : HpsR w v l) (hg : w.grownBy w' row) (hr : ∀ k cur z, row = some k → w.heap[k]? ≠ some (.cells cur 81 z)) : HpsR w' v l := by
  obtain ⟨⟨hl, A, c, hv, hc, hm, hx⟩, h2⟩ := h
  rcases h2 with h0 | ⟨g, o, c', cur, z, hv', hh⟩
  · exact ⟨⟨hl, A, c, hv, hc, hm, fun hn => absurd hn (by omega)⟩, .inl h0⟩
  · have hb : w'.heap[g]? = w.heap[g]? := hg.block g (Array.getElem?_eq_some_iff.1 hh).1 (fun e => hr g cur z e.symm hh)
    refine ⟨⟨hl, A, c, hv, hc, hm, fun hn => ?_⟩, .inr ⟨g, o, c', cur, z, hv', hb.trans hh⟩⟩
    obtain ⟨g2, o2, hA, hgl, hcell⟩ := hx hn
    have e : g = g2 := by
      rw [hv, hA] at hv'
      injection hv' with ha
      injection ha with ha
      injection ha with ha
      exact ha.symm
    subst e
    exact ⟨g, o2, hA, Nat.lt_of_lt_of_le hgl hg.size, fun j u hu => (World.cell?_of_block (w := w) (a := ⟨g, o2 + j, none⟩) hb).trans (hcell j u hu)⟩
theorem HpsR.at_ {w : World} {v : Value} {l : List Hp} (h : HpsR w v l) {k : Nat} (hk : k < l.length) :
    ∃ g o c, v = .slice (some ⟨g, o, none⟩) l.length c ∧ g < w.heap.size ∧ w.cell? ⟨g, o + k * 4, none⟩ = some (.string (sb l[k].aw)) ∧ w.cell? ⟨g, o + k * 4 + 1, none⟩ = some (.string (sb l[k].dst)) ∧ w.cell? ⟨g, o + k * 4 + 2, none⟩ = some (.int .i64 l[k].lo) ∧ w.cell? ⟨g, o + k * 4 + 3, none⟩ = some (.int .i64 l[k].hi) := by
  obtain ⟨⟨hl, A, c, hv, hc, hm, hr⟩, _⟩ := h
  obtain ⟨g, o, rfl, hg, hx⟩ := hr (by omega)
  obtain ⟨h0, h1, h2, h3⟩ := hpcells_at l k hk
  exact ⟨g, o, c, hv, hg, hx _ _ h0, hx _ _ h1, hx _ _ h2, hx _ _ h3⟩
def nextL (L : List Aw) (r : List UInt8) : List Hp := if chkL L = 0 then hopsL L r else []
theorem chkL_small {L : List Aw} (h : chkL L = 0) : L.length ≤ 60 := by
  unfold chkL at h
  split at h
  · cases h
  · omega
def NextPost (L : List Aw) (r : List UInt8) (w : World) (e : Ending) (w' : World) : Prop := ∃ v, e = .returned (.tuple #[v, .int .i64 (chkL L)]) ∧ HpsR w' v (nextL L r) ∧ Below w.heap.size w w'
set_option maxHeartbeats 1000000 in
theorem next_any (v : Value) (L : List Aw) (r : ByteArray) (w : World) (h : AwsR w v L) :
    Calls Tryz.prog 37 #[v, .string r] w (NextPost L (bl r) w) := by
  have H := Lib.hid h
  clear h
  obtain ⟨x, hx⟩ : ∃ x, chkL L = x := ⟨_, rfl⟩
  have HX := Lib.hid hx
  have HP : Hid (∀ (v' : Value) (w' : World), HpsR w' v' (nextL L (bl r)) → Below w.heap.size w w' → NextPost L (bl r) w (.returned (.tuple #[v', .int .i64 x])) w') := fun v' w' h1 h2 => ⟨v', by rw [HX.out], h1, h2⟩
  clear hx
  go_enter Tryz.func37, Tryz.ntmps37
  go_wp2_with fail
  refine (checkL_any v L _ H.out).mono ?_
  rintro e w1 ⟨rfl, hb1⟩
  rw [HX.out]
  by_cases h0 : x = 0
  · have e1 : (x != 0) = false := by rw [h0]; rfl
    have H0 := Lib.hid h0
    have HS : Hid (L.length ≤ 60) := chkL_small (HX.out.trans h0)
    rw [h0] at HP
    clear h0
    go_wp2_with fail
    refine (hops_index_any v L r _ (H.out.below hb1) HS.out).mono ?_
    rintro e w2 ⟨v2, rfl, hv2, hb2⟩
    have HV := Lib.hid hv2
    clear hv2
    go_wp2
    go_ret2
    exact HP.out _ _ (by unfold nextL; rw [if_pos (HX.out.trans H0.out)]; exact HV.out) (Below.then_ hb1 hb2)
  · have e1 : (x != 0) = true := bne_iff_ne.2 h0
    have H0 := Lib.hid h0
    clear h0
    go_wp2
    go_ret2
    exact HP.out _ _ (by unfold nextL; rw [if_neg (by rw [HX.out]; exact H0.out)]; exact HpsR.nil _) hb1
end Go.Proofs.YtinkdlmikhcpjaaGreatDoor
namespace Go.Proofs.YtinkdlmikhcpjaaGreatDoor
set_option linter.unusedVariables false
set_option linter.unusedSimpArgs false

abbrev Rf := List UInt8
/-- the references of a list that are not yet there go behind -/
def addAll (q : List Rf) : List Rf → List Rf
  | [] => q
  | d :: r => if d ∈ q then addAll q r else addAll (q ++ [d]) r
def bfs (nx : Rf → List Rf) : Nat → List Rf → Nat → List Rf
  | 0, q, _ => q
  | f + 1, q, i => match q[i]? with
    | none => q
    | some s => bfs nx f (addAll q (nx s)) (i + 1)
theorem addAll_nodup : ∀ (r : List Rf) (q : List Rf), q.Nodup → (addAll q r).Nodup
  | [], q, h => h
  | d :: r, q, h => by
    unfold addAll
    split
    · exact addAll_nodup r q h
    · next hd =>
      refine addAll_nodup r _ ?_
      rw [List.nodup_append]
      refine ⟨h, by simp, ?_⟩
      intro a ha b hb e
      rw [List.mem_singleton] at hb
      exact hd (by rw [← hb, ← e]; exact ha)
theorem addAll_mem : ∀ (r : List Rf) (q : List Rf) (x : Rf), x ∈ addAll q r ↔ x ∈ q ∨ x ∈ r
  | [], q, x => by simp [addAll]
  | d :: r, q, x => by
    unfold addAll
    split
    · next hd =>
      rw [addAll_mem r q x, List.mem_cons]
      constructor
      · rintro (h | h)
        · exact .inl h
        · exact .inr (.inr h)
      · rintro (h | h | h)
        · exact .inl h
        · exact .inl (h ▸ hd)
        · exact .inr h
    · rw [addAll_mem r _ x, List.mem_append, List.mem_singleton, List.mem_cons, or_assoc]
theorem addAll_ext : ∀ (r : List Rf) (q : List Rf), ∃ t, addAll q r = q ++ t
  | [], q => ⟨[], by simp [addAll]⟩
  | d :: r, q => by
    unfold addAll
    split
    · exact addAll_ext r q
    · obtain ⟨t, ht⟩ := addAll_ext r (q ++ [d])
      exact ⟨d :: t, by rw [ht, List.append_assoc]; rfl⟩
/-- a list without repeats is no longer than one that has its members -/
theorem nodup_le {α : Type} [DecidableEq α] : ∀ (l m : List α), l.Nodup → (∀ x ∈ l, x ∈ m) → l.length ≤ m.length
  | [], m, _, _ => Nat.zero_le _
  | a :: l, m, h, hm => by
    have ha := hm a (by simp)
    rw [List.nodup_cons] at h
    have h2 := nodup_le l (m.erase a) h.2 (fun x hx => by
      have hne : x ≠ a := fun e => h.1 (e ▸ hx)
      rw [List.mem_erase_of_ne hne]
      exact hm x (List.mem_cons_of_mem _ hx))
    rw [List.length_erase_of_mem ha] at h2
    have h3 : 0 < m.length := List.length_pos_of_mem ha
    simp only [List.length_cons]
    omega
/-- all references of points -/
def allRefs (L : List Aw) : List Rf := L.flatMap fun a => a.pts.map (·.ref)
theorem hops_dst (L : List Aw) (s : Rf) : ∀ h ∈ hopsL L s, h.dst ∈ allRefs L := by
  intro h hh
  unfold hopsL at hh
  rw [List.mem_flatMap] at hh
  obtain ⟨a, ha, hh⟩ := hh
  unfold allRefs
  rw [List.mem_flatMap]
  refine ⟨a, ha, ?_⟩
  rcases idxOf_bd a.pts s with hi | ⟨i, hi, hil⟩
  · unfold hopsOf at hh; rw [if_pos hi] at hh; cases hh
  · unfold hopsOf at hh
    rw [if_neg (by omega), hi, Int.toNat_natCast, List.mem_append] at hh
    rw [List.mem_map]
    rcases hh with hh | hh
    · rcases hopF_ways hil with ⟨h1, _, e⟩ | ⟨h1, _, e⟩ | ⟨_, e⟩
      · rw [e, List.mem_singleton] at hh; subst hh; exact ⟨_, List.getElem_mem h1, rfl⟩
      · rw [e] at hh; cases hh
      · rw [e] at hh; cases hh
    · rcases hopB_ways hil with ⟨h1, _, _, e⟩ | ⟨h1, _, _, e⟩ | ⟨_, e⟩
      · rw [e, List.mem_singleton] at hh; subst hh; exact ⟨_, List.getElem_mem h1, rfl⟩
      · rw [e] at hh; cases hh
      · rw [e] at hh; cases hh
def nxt (L : List Aw) (s : Rf) : List Rf := (hopsL L s).map (·.dst)
theorem nxt_mem (L : List Aw) (s : Rf) : ∀ x ∈ nxt L s, x ∈ allRefs L := by
  intro x hx
  unfold nxt at hx
  rw [List.mem_map] at hx
  obtain ⟨h, hh, rfl⟩ := hx
  exact hops_dst L s h hh

/-! ### ascending -/
def leB (x y : Rf) : Bool := decide (x ≤ y)
def srt (q : List Rf) : List Rf := q.mergeSort leB
theorem leB_trans (a b c : Rf) (h : leB a b = true) (k : leB b c = true) : leB a c = true := by
  unfold leB at *
  rw [decide_eq_true_iff] at *
  exact List.le_trans h k
theorem leB_total (a b : Rf) : (leB a b || leB b a) = true := by
  unfold leB
  rcases List.le_total a b with h | h
  · rw [decide_eq_true h]; rfl
  · rw [decide_eq_true h, Bool.or_true]
theorem leB_anti {a b : Rf} (h : leB a b = true) (k : leB b a = true) : a = b := by
  unfold leB at *
  rw [decide_eq_true_iff] at *
  exact List.le_antisymm h k
theorem srt_sorted (q : List Rf) : (srt q).Pairwise (fun a b => leB a b = true) := List.pairwise_mergeSort leB_trans leB_total q
theorem srt_perm (q : List Rf) : (srt q).Perm q := List.mergeSort_perm q leB
theorem srt_mem {q : List Rf} {x : Rf} : x ∈ srt q ↔ x ∈ q := (srt_perm q).mem_iff
/-- into an ascending list -/
def insL (d : Rf) : List Rf → List Rf
  | [] => [d]
  | s :: l => if leB d s then d :: s :: l else s :: insL d l
theorem insL_perm (d : Rf) : ∀ l, (insL d l).Perm (d :: l)
  | [] => List.Perm.refl _
  | s :: l => by
    unfold insL
    split
    · exact List.Perm.refl _
    · exact ((insL_perm d l).cons s).trans (List.Perm.swap _ _ _)
theorem insL_sorted (d : Rf) : ∀ l, l.Pairwise (fun a b => leB a b = true) → (insL d l).Pairwise (fun a b => leB a b = true)
  | [], _ => by simp [insL]
  | s :: l, h => by
    rw [List.pairwise_cons] at h
    unfold insL
    split
    · next hd =>
      rw [List.pairwise_cons, List.pairwise_cons]
      refine ⟨?_, h⟩
      intro x hx
      rcases List.mem_cons.1 hx with rfl | hx
      · exact hd
      · exact leB_trans _ _ _ hd (h.1 x hx)
    · next hd =>
      rw [List.pairwise_cons]
      refine ⟨?_, insL_sorted d l h.2⟩
      intro x hx
      rw [(insL_perm d l).mem_iff] at hx
      rcases List.mem_cons.1 hx with rfl | hx
      · have := leB_total x s
        rw [Bool.or_eq_true] at this
        rcases this with h1 | h1
        · exact absurd h1 hd
        · exact h1
      · exact h.1 x hx
theorem srt_snoc (q : List Rf) (d : Rf) : srt (q ++ [d]) = insL d (srt q) := by
  refine List.Perm.eq_of_pairwise (le := fun a b => leB a b = true) (fun a b _ _ h k => leB_anti h k) (srt_sorted _) (insL_sorted d _ (srt_sorted q)) ?_
  refine (srt_perm _).trans ?_
  refine (List.perm_append_comm).trans ?_
  exact ((srt_perm q).symm.cons d).trans (insL_perm d _).symm
theorem srt_nodup {q : List Rf} (h : q.Nodup) : (srt q).Nodup := (srt_perm q).nodup_iff.2 h

/-! ### step by step -/
theorem addAll_append : ∀ (a : List Rf) (q b : List Rf), addAll q (a ++ b) = addAll (addAll q a) b
  | [], q, b => rfl
  | d :: a, q, b => by
    have e : ∀ (q l : List Rf) (d : Rf), addAll q (d :: l) = if d ∈ q then addAll q l else addAll (q ++ [d]) l := fun _ _ _ => rfl
    rw [List.cons_append, e, e]
    split
    · exact addAll_append a q b
    · exact addAll_append a _ b
theorem addAll_snoc (q a : List Rf) (d : Rf) : addAll q (a ++ [d]) = if d ∈ addAll q a then addAll q a else addAll q a ++ [d] := by
  rw [addAll_append]; rfl
theorem bfs_step {nx : Rf → List Rf} {f i : Nat} {q : List Rf} (h : i < q.length) : bfs nx (f + 1) q i = bfs nx f (addAll q (nx q[i])) (i + 1) := by
  rw [bfs, List.getElem?_eq_getElem h]
theorem bfs_end {nx : Rf → List Rf} {f i : Nat} {q : List Rf} (h : q.length ≤ i) : bfs nx f q i = q := by
  cases f with
  | zero => rfl
  | succ f => rw [bfs, List.getElem?_eq_none h]
/-- the references that can be reached from r, in the order in which they are found -/
def found (L : List Aw) (r : Rf) : List Rf := bfs (nxt L) ((allRefs L).length + 2) [r] 0
def reachL (L : List Aw) (r : Rf) : List Rf := srt (found L r)
end Go.Proofs.YtinkdlmikhcpjaaGreatDoor
namespace Go.Proofs.YtinkdlmikhcpjaaGreatDoor
open Go.RowKit Go.Maps Go.ChangeMaps Go.WideMaps
set_option linter.unusedVariables false
set_option linter.unusedSimpArgs false

theorem plainElem_bool_inv {H : Type} {P : Program} {e : TypeId} (he : P.underlying e = some .bool) {v : Value} {z : DataW H × List MemPlace} (h : plainElem P e v = some z) : ∃ x, v = .bool x ∧ z = (.lit (.bool x), []) := by
  unfold plainElem at h
  rw [he] at h
  cases v <;> simp at h
  exact ⟨_, rfl, h.symm⟩
theorem lookup_bool {H : Type} {P : Program} {k e t : TypeId} {b n : Nat} {D : DataW H} {w : World} (h : w.ownsMap P k (plainElem P e) b n D) (K : Keyed P k) (ht : P.underlying t = some (.map k e)) (he : P.underlying e = some .bool) (hz : (zeroValue e).run P w = .ok (.bool false) w)
    {key : Value} {kl : Lit} (hkey : keyOf P k key = some kl) : ∃ c, (Instr.lookup t (.map (some b)) key false).run P w = .ok (.bool c) w ∧ D.atKey kl (.lit (.bool false)) = .lit (.bool c) := by
  obtain ⟨v, ps, hrun, hv⟩ := h.lookup K ht hz (plainElem_bool he false) hkey
  obtain ⟨c, rfl, hc⟩ := plainElem_bool_inv he hv
  simp only [Prod.mk.injEq] at hc
  exact ⟨c, hrun, hc.1⟩
/-- block b is a map that says of every reference whether it is in q -/
def SeenR (w : World) (b n : Nat) (q : List Rf) : Prop :=
  ∃ D : DataW Unit, w.ownsMap Tryz.prog 9 (plainElem Tryz.prog 4) b n D ∧ ∀ x : Rf, D.atKey (.string x) (.lit (.bool false)) = .lit (.bool (decide (x ∈ q)))
theorem zeroBool (w : World) : (zeroValue 4).run Tryz.prog w = .ok (.bool false) w := by kernel_rfl
theorem SeenR.made (w : World) : SeenR (w.alloc (.map #[] 0)) w.heap.size 0 [] :=
  ⟨.map [], World.ownsMap_made w _ _ _, fun x => by simp [DataW.atKey]⟩
theorem SeenR.lookup {w : World} {b n : Nat} {q : List Rf} (h : SeenR w b n q) {s : ByteArray} (hs : s.size ≤ maxLen) :
    (Instr.lookup 179 (.map (some b)) (.string s) false).run Tryz.prog w = .ok (.bool (decide (bl s ∈ q))) w := by
  obtain ⟨D, h1, h2⟩ := h
  obtain ⟨c, hrun, hat⟩ := lookup_bool h1 (string_keyed Tryz.underlying9) Tryz.underlying179 Tryz.underlying4 (zeroBool w) (keyOf_string_mk Tryz.underlying9 hs)
  rw [hrun]
  have h3 := h2 (bl s)
  have e : D.atKey (.string s.data.toList) (.lit (.bool false)) = .lit (.bool (decide (bl s ∈ q))) := h3
  rw [e] at hat
  simp only [DataW.lit.injEq, Lit.bool.injEq] at hat
  rw [hat]
theorem SeenR.update {w : World} {b n : Nat} {q : List Rf} (h : SeenR w b n q) {s : ByteArray} (hs : s.size ≤ maxLen) (hn : n < maxLen) :
    ∃ w', (Instr.mapUpdate 179 (.map (some b)) (.string s) (.bool true)).run Tryz.prog w = .ok () w' ∧ SeenR w' b (n + 1) (q ++ [bl s]) ∧ w.grownBy w' (some b) := by
  obtain ⟨D, h1, h2⟩ := h
  obtain ⟨w', hrun, h3, hg⟩ := h1.update (string_keyed Tryz.underlying9) Tryz.underlying179 hn (keyOf_string_mk Tryz.underlying9 hs) (plainElem_bool Tryz.underlying4 true)
  refine ⟨w', hrun, ⟨_, h3, fun x => ?_⟩, hg⟩
  by_cases hx : x = bl s
  · subst hx
    rw [show (Lit.string (bl s)) = Lit.string s.data.toList from rfl, atKey_put_same h1.isMap (by trivial)]
    simp
  · rw [atKey_put_other (by intro e; injection e with e; exact hx e), h2 x]
    simp [hx]
theorem SeenR.kept {w w' : World} {b n : Nat} {q : List Rf} {row : Option Nat} (h : SeenR w b n q) (hg : w.grownBy w' row) (hne : some b ≠ row) : SeenR w' b n q := by
  obtain ⟨D, h1, h2⟩ := h
  exact ⟨D, h1.kept hg hne, h2⟩
theorem SeenR.below {w w' : World} {b n : Nat} {q : List Rf} (h : SeenR w b n q) (hb : Below w.heap.size w w') : SeenR w' b n q := by
  obtain ⟨D, ⟨es, clock, hbk, r⟩, h2⟩ := h
  exact ⟨D, ⟨es, clock, (hb.block b (Array.getElem?_eq_some_iff.1 hbk).1).trans hbk, r⟩, h2⟩
theorem own_one (w : World) (a : Value) (t : TypeId) {base : Nat} (h : base ≤ w.heap.size) : (w.alloc (.cells #[a] t)).ownsRow base t 1 (.slice (some ⟨w.heap.size, 0, none⟩) 1 1) 1 [a] :=
  ⟨rfl, .inr ⟨w.heap.size, 1, #[a], rfl, h, heap_alloc_new w _, Nat.le_refl _, by unfold maxLen; omega, rfl, rfl⟩⟩
/-- every reference of points fits -/
def FitL (L : List Aw) : Prop := ∀ x ∈ allRefs L, x.length ≤ maxLen
def ReachPost (L : List Aw) (r : Rf) (w : World) (e : Ending) (w' : World) : Prop := ∃ v, e = .returned v ∧ StrR w' v (reachL L r) ∧ Below w.heap.size w w'
set_option maxRecDepth 100000 in
set_option maxHeartbeats 4000000 in
theorem reach_any (v : Value) (L : List Aw) (r : ByteArray) (w : World) (h : AwsR w v L) (hL : L.length ≤ 60) (hr : r.size ≤ maxLen) (hfit : FitL L) (hN : (allRefs L).length ≤ 100000) :
    Calls Tryz.prog 93 #[v, .string r] w (ReachPost L (bl r) w) := by
  obtain ⟨i0, hi0, hz0, hz1, hz2⟩ := info_parts infoString
  have hmm := @run_makeMap Tryz.prog
  obtain ⟨w1, hrun1, S1, hg1⟩ := (SeenR.made w).update (s := r) hr (by unfold maxLen; omega)
  have HRUN1 := Lib.hid hrun1
  have S1 := Lib.hid S1
  have hs1 := hg1.size
  have hw1 : w.heap.size + 1 ≤ w1.heap.size := by simp at hs1; omega
  have hB1 : Hid (Below w.heap.size w w1) := (((Below.refl w.heap.size w).alloc (Nat.le_refl _) _)).grown hg1 (by simp) (fun k hk => by injection hk with hk; omega)
  have H := Lib.hid h
  obtain ⟨res, hres⟩ : ∃ res, found L (bl r) = res := ⟨_, rfl⟩
  have HRES := Lib.hid hres
  have HPOST : Hid (∀ (v' : Value) (w' : World), StrR w' v' (srt res) → Below w.heap.size w w' → ReachPost L (bl r) w (.returned v') w') := fun v' w' h1 h2 => ⟨v', rfl, by unfold reachL; rw [hres]; exact h1, h2⟩
  clear hrun1 hs1 hg1 h hres
  go_enter Tryz.func93, Tryz.ntmps93
  go_wp2_with fail
  rw [HRUN1.out]
  clear hmm
  go_wp2_with fail
  go_loopw [6, 7] (fun qv iv wr => ∃ (q : List Rf) (i f : Nat), iv = .int .i64 i ∧ i ≤ q.length ∧ f + i = (allRefs L).length + 2 ∧ Hid (q.Nodup ∧ ∀ x ∈ q, x ∈ bl r :: allRefs L) ∧ wr.ownsRow (w.heap.size + 1) 9 1 qv q.length (rfcells q) ∧ Hid (SeenR wr w.heap.size q.length q) ∧ Hid (bfs (nxt L) f q i = res) ∧ Below w.heap.size w wr) (fun _ iv _ => (allRefs L).length + 2 - (intOf iv).toNat)
  case atStart =>
    refine ⟨[bl r], 0, _, rfl, Nat.zero_le _, rfl, ⟨by simp, by simp⟩, ?_, ?_, HRES.out, hB1.out.alloc (by omega) _⟩
    · have h1 := own_one w1 (.string r) 9 hw1
      exact h1
    · exact S1.out.below ((Below.refl _ _).alloc (Nat.le_refl _) _)
  case round =>
    obtain ⟨q, i, f, rfl, hi, hfi, hq, hown, hseen, hbfs, hbr⟩ := hrel
    have hqn := nodup_le q _ hq.out.1 hq.out.2
    rw [List.length_cons] at hqn
    have hwr : w.heap.size < wr.heap.size := by
      obtain ⟨D, ⟨es, clock, hbk, _⟩, _⟩ := hseen.out
      exact (Array.getElem?_eq_some_iff.1 hbk).1
    by_cases hlt : i < q.length
    · obtain ⟨f, rfl⟩ : ∃ f', f = f' + 1 := ⟨f - 1, by omega⟩
      have HB : Hid (bfs (nxt L) f (addAll q (nxt L q[i])) (i + 1) = res) := by
        have h := hbfs.out
        rw [bfs_step hlt] at h
        exact h
      obtain ⟨g, cap, rfl, hgb, hgs⟩ := hown.form (by omega)
      have hcell : wr.cell? ⟨g, i, none⟩ = some (.string (sb q[i])) := by
        have := hown.cellAt i (by omega)
        rw [this]; unfold rfcells; rw [List.getElem?_map, List.getElem?_eq_getElem hlt]; rfl
      have hNx : ∀ x ∈ nxt L q[i], x ∈ bl r :: allRefs L := fun x hx => List.mem_cons_of_mem _ (nxt_mem L q[i] x hx)
      have HNX := Lib.hid hNx
      obtain ⟨s, hs⟩ : ∃ s, q[i] = s := ⟨_, rfl⟩
      rw [hs] at HB hcell HNX
      have HQN := Lib.hid hqn
      clear hbfs hs hqn hNx
      have hii : (i : Int) < (q.length : Int) := by omega
      have HOWN := Lib.hid hown
      clear hown
      go_wp2_with fail
      refine (hops_index_any v L (sb s) _ (H.out.below hbr) hL).mono ?_
      rintro e w2 ⟨vh, rfl, hvh, hb2⟩
      rw [bl_sb] at hvh
      have HO2 := Lib.hid (own_below HOWN.out hb2)
      have HS2 := Lib.hid (hseen.out.below hb2)
      have hbr2 := hbr.trans (hb2.mono hbr.size)
      have hwr2 : w.heap.size < w2.heap.size := Nat.lt_of_lt_of_le hwr hb2.size
      have hhl := hopsL_len L s
      have HNL : Hid (nxt L s = (hopsL L s).map (·.dst)) := rfl
      have HDST := Lib.hid (hops_dst L s)
      obtain ⟨hl, hhe⟩ : ∃ hl, hopsL L s = hl := ⟨_, rfl⟩
      rw [hhe] at hvh hhl HNL HDST
      clear hhe hb2 hcell HOWN hseen
      obtain ⟨m, hm⟩ : ∃ m, hl.length = m := ⟨_, rfl⟩
      have HM := Lib.hid hm
      obtain ⟨Ah, ch, rfl, hc1, hc2⟩ := hvh.form
      have HV := Lib.hid hvh
      rw [hm] at hhl HV hc1 ⊢
      clear hm hvh
      unfold maxLen at hc2
      go_wp2_with fail
      go_loopw [6, 28] (fun qv jv wx => ∃ (q' : List Rf) (j : Nat), jv = .int .i64 j ∧ j ≤ m ∧ Hid (q' = addAll q ((nxt L s).take j)) ∧ wx.ownsRow (w.heap.size + 1) 9 1 qv q'.length (rfcells q') ∧ Hid (SeenR wx w.heap.size q'.length q') ∧ Hid (HpsR wx (.slice Ah m ch) hl) ∧ Below w.heap.size w wx) (fun _ jv _ => m - (intOf jv).toNat)
      case atStart => exact ⟨q, 0, rfl, Nat.zero_le _, rfl, HO2.out, HS2, HV, hbr2⟩
      case round =>
        obtain ⟨q', j, rfl, hj, hqe, hown, hseen, hhp, hbx⟩ := hrel
        have hq1 : q'.Nodup := by rw [hqe.out]; exact addAll_nodup _ _ hq.out.1
        have hq2 : ∀ x ∈ q', x ∈ bl r :: allRefs L := by
          intro x hx
          rw [hqe.out, addAll_mem] at hx
          rcases hx with hx | hx
          · exact hq.out.2 x hx
          · exact HNX.out x (List.mem_of_mem_take hx)
        have hqn := nodup_le q' _ hq1 hq2
        rw [List.length_cons] at hqn
        clear hq1 hq2
        have hwx : w.heap.size < wr.heap.size := by
          obtain ⟨D, ⟨es, clock, hbk, _⟩, _⟩ := hseen.out
          exact (Array.getElem?_eq_some_iff.1 hbk).1
        by_cases hlj : j < m
        · have hjl : j < hl.length := by rw [HM.out]; exact hlj
          obtain ⟨gh, oh, ch', hA, hgh, x0, x1, x2, x3⟩ := hhp.out.at_ hjl
          rw [HM.out] at hA
          simp only [Value.slice.injEq, true_and] at hA
          obtain ⟨rfl, rfl⟩ := hA
          have HD := HDST.out _ (List.getElem_mem hjl)
          have hTK : (nxt L s).take (j + 1) = (nxt L s).take j ++ [hl[j].dst] := by
            rw [HNL.out, List.take_succ_eq_append_getElem (by rw [List.length_map]; exact hjl), List.getElem_map]
          have hAD : Hid (addAll q ((nxt L s).take (j + 1)) = if hl[j].dst ∈ q' then q' else q' ++ [hl[j].dst]) := by
            unfold Hid; rw [hTK, addAll_snoc, ← hqe.out]
          obtain ⟨p, hp⟩ : ∃ p, hl[j] = p := ⟨_, rfl⟩
          rw [hp] at x0 x1 x2 x3 hAD HD
          have hfd := hfit _ HD
          have HJL := Lib.hid hjl
          clear hp hTK HD hjl
          have hji : (j : Int) < (m : Int) := by omega
          have HB1 := Lib.hid (hbx.alloc hbx.size (.cells #[.string (sb p.aw), .string (sb p.dst), .int .i64 p.lo, .int .i64 p.hi] 81))
          have HS1 := Lib.hid (hseen.out.below ((Below.refl wr.heap.size wr).alloc (Nat.le_refl _) (.cells #[.string (sb p.aw), .string (sb p.dst), .int .i64 p.lo, .int .i64 p.hi] 81)))
          have HP1 := Lib.hid (hhp.out.below ((Below.refl wr.heap.size wr).alloc (Nat.le_refl _) (.cells #[.string (sb p.aw), .string (sb p.dst), .int .i64 p.lo, .int .i64 p.hi] 81)))
          have HO1 := Lib.hid (hown.alloc (.cells #[.string (sb p.aw), .string (sb p.dst), .int .i64 p.lo, .int .i64 p.hi] 81))
          have hlook := HS1.out.lookup (s := sb p.dst) hfd
          rw [bl_sb] at hlook
          clear hhp hseen hown
          by_cases hmem : p.dst ∈ q'
          · rw [decide_eq_true hmem] at hlook
            have HL := Lib.hid hlook
            have HE : Hid (q' = addAll q ((nxt L s).take (j + 1))) := by unfold Hid; rw [hAD.out, if_pos hmem]
            clear hlook hmem
            have hlook := HL.out
            go_wp2
            go_roundw
            case rel => exact ⟨q', j + 1, by go_num, hlj, HE, HO1.out, HS1, HP1, HB1.out⟩
            case measure => simp [intOf]; omega
          · rw [decide_eq_false hmem] at hlook
            have HL := Lib.hid hlook
            have HE : Hid (q' ++ [p.dst] = addAll q ((nxt L s).take (j + 1))) := by unfold Hid; rw [hAD.out, if_neg hmem]
            clear hlook hmem
            have hlook := HL.out
            obtain ⟨w3, hrun3, S3, hg3⟩ := HS1.out.update (s := sb p.dst) hfd (by unfold maxLen; omega)
            have HRUN3 := Lib.hid hrun3
            have HS3 : Hid (SeenR w3 w.heap.size (q' ++ [p.dst]).length (q' ++ [p.dst])) := by
              unfold Hid; rw [List.length_append]; exact S3
            have hne : u6.ownBlock ≠ some w.heap.size := fun h => by have := (HO1.out.lt _ h).1; omega
            have HO3 := Lib.hid (HO1.out.kept hg3 (.inr hne))
            have HP3 := Lib.hid (HP1.out.grown hg3 (fun k cur z hk hh => by
              injection hk with hk
              subst hk
              obtain ⟨D, ⟨es, clock, hbk, _⟩, _⟩ := HS1.out
              rw [hbk] at hh
              cases hh))
            have HB3 := Lib.hid (HB1.out.grown hg3 (by simp; omega) (fun k hk => by injection hk with hk; omega))
            have hs3 := hg3.size
            have hsz : wr.heap.size + 1 ≤ w3.heap.size := by simp at hs3; omega
            have y1 : w3.cell? ⟨wr.heap.size, 1, none⟩ = some (.string (sb p.dst)) := by
              rw [hg3.cell_far _ (by simp) (by simp; omega)]
              simp [go_sem]
            clear hrun3 S3 hs3 hg3
            go_wp2_with fail
            rw [HRUN3.out]
            have hown3 := HO3.out
            go_wp2_with (at_builtin; refine wpList_append_own _ rfl (.tmp 40) (.tmp 43) 45 rfl (w.heap.size + 1) 9 i0 (.string ⟨#[]⟩) 1 16 Tryz.underlying45 hi0 hz0 hz1 hz2 rfl (by decide) _ _ _ rfl (hown3.alloc _) ⟨w3.heap.size, 0, none⟩ 1 1 [.string (sb p.dst)] rfl rfl (cell_one_new _ _ _) (by intro u hu; simp at hu; rcases hu with rfl; rfl) (by unfold maxLen; omega) (by omega) (by simp; omega) ?_)
            intro v4 w4 hown4 hgrow _
            have hlt4 : ∀ j, u6.ownBlock = some j → w.heap.size + 1 ≤ j := fun j hj => (hown3.lt j hj).1
            have HB4 := Lib.hid ((HB3.out.alloc (by omega) (.cells #[.string (sb p.dst)] 9)).grown hgrow (by simp; omega) (fun k hk => by have := hlt4 k hk; omega))
            have HO4 : Hid (w4.ownsRow (w.heap.size + 1) 9 1 v4 (q' ++ [p.dst]).length (rfcells (q' ++ [p.dst]))) := by
              unfold Hid
              rw [rfcells_snoc, List.length_append]
              exact hown4
            have HS4 : Hid (SeenR w4 w.heap.size (q' ++ [p.dst]).length (q' ++ [p.dst])) :=
              (HS3.out.below ((Below.refl w3.heap.size w3).alloc (Nat.le_refl _) (.cells #[.string (sb p.dst)] 9))).kept hgrow (fun h => hne h.symm)
            have HP4 : Hid (HpsR w4 (.slice (some ⟨gh, oh, none⟩) m ch) hl) :=
              (HP3.out.below ((Below.refl w3.heap.size w3).alloc (Nat.le_refl _) (.cells #[.string (sb p.dst)] 9))).grown hgrow (fun k cur z hk hh => by
                obtain ⟨_, ⟨hv, _⟩ | ⟨g4, cap4, cur4, hv, _, hh4, _⟩⟩ := hown3.alloc (.cells #[.string (sb p.dst)] 9)
                · rw [hv] at hk; cases hk
                · rw [hv] at hk
                  have e4 : g4 = k := by simpa [Value.ownBlock] using hk
                  subst e4
                  rw [hh4] at hh
                  injection hh with hh
                  injection hh with _ ht
                  cases ht)
            clear hown3 hown4 hgrow hlt4 y1
            go_wp2
            go_roundw
            case rel => exact ⟨_, j + 1, by go_num, hlj, HE, HO4.out, HS4, HP4, HB4.out⟩
            case measure => simp [intOf]; omega
        · have HE : Hid (q' = addAll q (nxt L s)) := by
            unfold Hid
            rw [hqe.out, List.take_of_length_le (by rw [HNL.out, List.length_map, HM.out]; omega)]
          have HBX : Hid (bfs (nxt L) f q' (i + 1) = res) := by unfold Hid; rw [HE.out]; exact HB.out
          have HQ : Hid (q'.Nodup ∧ ∀ x ∈ q', x ∈ bl r :: allRefs L) := by
            refine ⟨?_, ?_⟩
            · rw [hqe.out]; exact addAll_nodup _ _ hq.out.1
            · intro x hx
              rw [hqe.out, addAll_mem] at hx
              rcases hx with hx | hx
              · exact hq.out.2 x hx
              · exact HNX.out x (List.mem_of_mem_take hx)
          have hil : i + 1 ≤ q'.length := by
            obtain ⟨t, ht⟩ := addAll_ext (nxt L s) q
            rw [HE.out, ht, List.length_append]; omega
          have HOW := Lib.hid hown
          clear hown
          go_wp2
          go_roundw
          case rel => exact ⟨q', i + 1, f, by go_num, hil, by omega, HQ, HOW.out, hseen, HBX, hbx⟩
          case measure => simp [intOf]; omega
    · have HE : Hid (q = res) := by unfold Hid; rw [← hbfs.out]; exact (bfs_end (by omega)).symm
      obtain ⟨hle, ⟨rfl, h0⟩ | ⟨g, cap, cur, rfl, hgb, hgh, hn1, hn2, hn3, hn4⟩⟩ := hown
      · have HQ0 : Hid (q = []) := List.eq_nil_of_length_eq_zero h0
        have hii : (0 : Int) ≤ (i : Int) := by omega
        have hi0 : i = 0 := by omega
        subst hi0
        have HL0 := Lib.hid h0
        clear h0 hle
        go_wp2_with fail
        refine (Tryz.slices_Sort_string_none none 0 _).mono ?_
        rintro e w2 ⟨rfl, rfl⟩
        go_wp2
        go_ret
        exact HPOST.out _ _ (by rw [← HE.out, HQ0.out, show srt [] = [] from List.mergeSort_nil]; exact ⟨rfl, none, 0, rfl, Nat.le_refl _, by unfold maxLen; omega, fun h => absurd h (by decide)⟩) hbr
      · have hii : (q.length : Int) ≤ (i : Int) := by omega
        have hgs : g < wr.heap.size := (Array.getElem?_eq_some_iff.1 hgh).1
        have hHold : Go.Sort.Holds encStr wr g 0 q.toArray := holds_of_block hgh (by rw [Nat.mul_one] at hn4; exact hn4)
        have HHOLD := Lib.hid hHold
        have HGH := Lib.hid hgh
        have HN3 := Lib.hid hn3
        clear hHold hgh hn3 hn4 hle
        go_wp2_with fail
        refine (Tryz.slices_Sort_string g 0 cap q _ HHOLD.out hgs (by omega)).mono ?_
        rintro e w2 ⟨rfl, n2, os, rfl⟩
        have hlen : (q.mergeSort fun x y => decide (x ≤ y)).length = q.length := List.length_mergeSort _
        have HO2 := Lib.hid (ownsRow_sorted (n := n2) (os := os) hlen hgb HGH.out hn1 hn2 HN3.out)
        have HB2 := Lib.hid (hbr.grown (grownBy_sorted (w := wr) (g := g) (n := n2) (os := os) (q.mergeSort fun x y => decide (x ≤ y)).toArray) (by omega) (fun k hk => by injection hk with hk; omega))
        have HSR : Hid (srt res = q.mergeSort fun x y => decide (x ≤ y)) := by unfold Hid; rw [← HE.out]; rfl
        have HLEN := Lib.hid hlen
        clear hlen
        go_wp2
        go_ret
        exact HPOST.out _ _ (by
          have h := Rd.of_own HO2.out
          rw [HSR.out]
          unfold StrR
          rw [HLEN.out]
          exact h) HB2.out
end Go.Proofs.YtinkdlmikhcpjaaGreatDoor
namespace Go.Proofs.YtinkdlmikhcpjaaGreatDoor
set_option linter.unusedVariables false
set_option linter.unusedSimpArgs false

theorem bfs_sub {nx : Rf → List Rf} {C : Rf → Prop} (hC : ∀ x, C x → ∀ y ∈ nx x, C y) : ∀ (f : Nat) (q : List Rf) (i : Nat), (∀ x ∈ q, C x) → ∀ x ∈ bfs nx f q i, C x
  | 0, q, i, h => by simpa [bfs] using h
  | f + 1, q, i, h => by
    by_cases hi : i < q.length
    · rw [bfs_step hi]
      refine bfs_sub hC f _ _ ?_
      intro x hx
      rw [addAll_mem] at hx
      rcases hx with hx | hx
      · exact h x hx
      · exact hC _ (h _ (List.getElem_mem hi)) x hx
    · rw [bfs_end (by omega)]; exact h
theorem bfs_ext {nx : Rf → List Rf} : ∀ (f : Nat) (q : List Rf) (i : Nat), ∀ x ∈ q, x ∈ bfs nx f q i
  | 0, q, i, x, h => by simpa [bfs] using h
  | f + 1, q, i, x, h => by
    by_cases hi : i < q.length
    · rw [bfs_step hi]
      exact bfs_ext f _ _ x ((addAll_mem _ _ _).2 (.inl h))
    · rw [bfs_end (by omega)]; exact h
theorem bfs_nodup {nx : Rf → List Rf} : ∀ (f : Nat) (q : List Rf) (i : Nat), q.Nodup → (bfs nx f q i).Nodup
  | 0, q, i, h => by simpa [bfs] using h
  | f + 1, q, i, h => by
    by_cases hi : i < q.length
    · rw [bfs_step hi]
      exact bfs_nodup f _ _ (addAll_nodup _ _ h)
    · rw [bfs_end (by omega)]; exact h
theorem bfs_closed {nx : Rf → List Rf} {r : Rf} {M : List Rf} (hM : ∀ x, ∀ y ∈ nx x, y ∈ M) : ∀ (f : Nat) (q : List Rf) (i : Nat), f + i = M.length + 2 → q.Nodup → (∀ x ∈ q, x ∈ r :: M) → i ≤ q.length → (∀ (j : Nat) (hj : j < q.length), j < i → ∀ y ∈ nx q[j], y ∈ q) →
    ∀ x ∈ bfs nx f q i, ∀ y ∈ nx x, y ∈ bfs nx f q i
  | 0, q, i, hf, hn, hq, hi, hc => by
    exfalso
    have := nodup_le q (r :: M) hn hq
    simp only [List.length_cons] at this
    omega
  | f + 1, q, i, hf, hn, hq, hi, hc => by
    by_cases h : i < q.length
    · rw [bfs_step h]
      obtain ⟨t, ht⟩ := addAll_ext (nx q[i]) q
      refine bfs_closed (r := r) hM f _ _ (by omega) (addAll_nodup _ _ hn) ?_ (by rw [ht, List.length_append]; omega) ?_
      · intro x hx
        rw [addAll_mem] at hx
        rcases hx with hx | hx
        · exact hq x hx
        · exact List.mem_cons_of_mem _ (hM _ x hx)
      · intro j hj hji y hy
        rw [addAll_mem]
        have hjq : j < q.length := by omega
        have e : (addAll q (nx q[i]))[j] = q[j] := by
          have : ∀ (l : List Rf) (hl : l = q ++ t) (hj' : j < l.length), l[j] = q[j] := by
            intro l hl hj'
            subst hl
            exact List.getElem_append_left hjq
          exact this _ ht hj
        rw [e] at hy
        rcases Nat.lt_or_ge j i with h2 | h2
        · exact .inl (hc j hjq h2 y hy)
        · have : j = i := by omega
          subst this
          exact .inr hy
    · rw [bfs_end (by omega)]
      intro x hx y hy
      obtain ⟨j, hj, rfl⟩ := List.mem_iff_getElem.1 hx
      exact hc j hj (by omega) y hy
theorem found_self (L : List Aw) (r : Rf) : r ∈ found L r := bfs_ext _ _ _ r (by simp)
theorem found_nodup (L : List Aw) (r : Rf) : (found L r).Nodup := bfs_nodup _ _ _ (by simp)
theorem found_closed (L : List Aw) (r : Rf) : ∀ x ∈ found L r, ∀ y ∈ nxt L x, y ∈ found L r :=
  bfs_closed (r := r) (fun x => nxt_mem L x) _ _ _ (by omega) (by simp) (by simp) (Nat.zero_le _) (fun j _ h => absurd h (by omega))
theorem found_sub (L : List Aw) (r x : Rf) (hx : x ∈ found L r) : ∀ y ∈ found L x, y ∈ found L r :=
  bfs_sub (C := fun z => z ∈ found L r) (found_closed L r) _ _ _ (by intro z hz; rw [List.mem_singleton] at hz; exact hz ▸ hx)
theorem reach_self (L : List Aw) (r : Rf) : r ∈ reachL L r := srt_mem.2 (found_self L r)
theorem reach_nodup (L : List Aw) (r : Rf) : (reachL L r).Nodup := srt_nodup (found_nodup L r)
theorem reach_closed (L : List Aw) (r : Rf) : ∀ x ∈ reachL L r, ∀ h ∈ hopsL L x, h.dst ∈ reachL L r := fun x hx h hh =>
  srt_mem.2 (found_closed L r x (srt_mem.1 hx) h.dst (List.mem_map.2 ⟨h, hh, rfl⟩))
theorem reach_sub (L : List Aw) (r x : Rf) (hx : x ∈ reachL L r) : ∀ y ∈ reachL L x, y ∈ reachL L r := fun y hy => srt_mem.2 (found_sub L r x (srt_mem.1 hx) y (srt_mem.1 hy))
/-- strictly ascending -/
theorem reach_asc (L : List Aw) (r : Rf) {i : Nat} (h : i + 1 < (reachL L r).length) : (reachL L r)[i] < (reachL L r)[i + 1] := by
  have hs := srt_sorted (found L r)
  have hn := reach_nodup L r
  have h1 : leB (reachL L r)[i] (reachL L r)[i + 1] = true := List.pairwise_iff_getElem.1 hs i (i + 1) (by show i < (reachL L r).length; omega) h (by omega)
  have h2 : (reachL L r)[i] ≠ (reachL L r)[i + 1] := List.pairwise_iff_getElem.1 hn i (i + 1) (by omega) h (by omega)
  unfold leB at h1
  rw [decide_eq_true_iff] at h1
  by_cases h3 : (reachL L r)[i] < (reachL L r)[i + 1]
  · exact h3
  · exact absurd (List.le_antisymm h1 (List.not_lt.1 h3)) h2
end Go.Proofs.YtinkdlmikhcpjaaGreatDoor
namespace Go.Proofs.YtinkdlmikhcpjaaGreatDoor
open Go.RowKit
set_option linter.unusedVariables false
set_option linter.unusedSimpArgs false

theorem chkLFrom_all : ∀ (L : List Aw), chkLFrom L = 0 → ∀ a ∈ L, chkA a.name a.pts = 0
  | [], _, a, h => by cases h
  | b :: L, hc, a, h => by
    have hc2 : (if chkA b.name b.pts = 0 then chkLFrom L else chkA b.name b.pts) = 0 := hc
    split at hc2
    · next h0 =>
      rcases List.mem_cons.1 h with rfl | h
      · exact h0
      · exact chkLFrom_all L hc2 a h
    · next h0 => exact absurd hc2 h0
theorem chkL_all {L : List Aw} (h : chkL L = 0) : ∀ a ∈ L, chkA a.name a.pts = 0 := by
  unfold chkL at h
  split at h
  · cases h
  · exact chkLFrom_all L h
theorem allRefs_len : ∀ (L : List Aw), (∀ a ∈ L, a.pts.length ≤ 40) → (allRefs L).length ≤ 40 * L.length
  | [], _ => by simp [allRefs]
  | b :: L, h => by
    have h1 := h b (by simp)
    have h2 := allRefs_len L (fun a ha => h a (List.mem_cons_of_mem _ ha))
    have e : allRefs (b :: L) = b.pts.map (·.ref) ++ allRefs L := by unfold allRefs; rw [List.flatMap_cons]
    rw [e, List.length_append, List.length_map, List.length_cons]; omega
theorem chkL_refs {L : List Aw} (h : chkL L = 0) : (allRefs L).length ≤ 100000 := by
  have h1 := chkL_small h
  have h2 := allRefs_len L (fun a ha => chk_small (chkL_all h a ha))
  omega
theorem chkL_fit {L : List Aw} (h : chkL L = 0) : FitL L := by
  intro x hx
  unfold allRefs at hx
  rw [List.mem_flatMap] at hx
  obtain ⟨a, ha, hx⟩ := hx
  rw [List.mem_map] at hx
  obtain ⟨p, hp, rfl⟩ := hx
  obtain ⟨j, hj, rfl⟩ := List.mem_iff_getElem.1 hp
  have := ((chk_has (chkL_all h a ha)).2.2.2 j hj).1
  unfold maxLen
  omega
def rcL (L : List Aw) (r : List UInt8) : List Rf := if chkL L = 0 then reachL L r else []
def ReachTPost (L : List Aw) (r : List UInt8) (w : World) (e : Ending) (w' : World) : Prop := ∃ v, e = .returned (.tuple #[v, .int .i64 (chkL L)]) ∧ StrR w' v (rcL L r) ∧ Below w.heap.size w w'
theorem strR_nil (w : World) : StrR w (.slice none 0 0) [] := ⟨rfl, none, 0, rfl, Nat.le_refl _, by unfold maxLen; omega, fun h => absurd h (by decide)⟩
theorem StrR.below {w w' : World} {v : Value} {l : List (List UInt8)} (h : StrR w v l) (hb : Below w.heap.size w w') : StrR w' v l := Rd.below h hb
set_option maxHeartbeats 1000000 in
theorem reachT_any (v : Value) (L : List Aw) (r : ByteArray) (w : World) (h : AwsR w v L) (hr : r.size ≤ maxLen) :
    Calls Tryz.prog 38 #[v, .string r] w (ReachTPost L (bl r) w) := by
  have H := Lib.hid h
  have HR := Lib.hid hr
  clear h hr
  obtain ⟨x, hx⟩ : ∃ x, chkL L = x := ⟨_, rfl⟩
  have HX := Lib.hid hx
  have HP : Hid (∀ (v' : Value) (w' : World), StrR w' v' (rcL L (bl r)) → Below w.heap.size w w' → ReachTPost L (bl r) w (.returned (.tuple #[v', .int .i64 x])) w') := fun v' w' h1 h2 => ⟨v', by rw [HX.out], h1, h2⟩
  clear hx
  go_enter Tryz.func38, Tryz.ntmps38
  go_wp2_with fail
  refine (checkL_any v L _ H.out).mono ?_
  rintro e w1 ⟨rfl, hb1⟩
  rw [HX.out]
  by_cases h0 : x = 0
  · have e1 : (x != 0) = false := by rw [h0]; rfl
    have H0 := Lib.hid h0
    have HC := Lib.hid (HX.out.trans h0)
    rw [h0] at HP
    clear h0
    go_wp2_with fail
    refine (reach_any v L r _ (H.out.below hb1) (chkL_small HC.out) HR.out (chkL_fit HC.out) (chkL_refs HC.out)).mono ?_
    rintro e w2 ⟨v2, rfl, hv2, hb2⟩
    have HV := Lib.hid hv2
    clear hv2
    go_wp2
    go_ret2
    exact HP.out _ _ (by unfold rcL; rw [if_pos HC.out]; exact HV.out) (Below.then_ hb1 hb2)
  · have e1 : (x != 0) = true := bne_iff_ne.2 h0
    have H0 := Lib.hid h0
    clear h0
    go_wp2
    go_ret2
    exact HP.out _ _ (by unfold rcL; rw [if_neg (by rw [HX.out]; exact H0.out)]; exact strR_nil _) hb1
end Go.Proofs.YtinkdlmikhcpjaaGreatDoor
namespace Go.Proofs.YtinkdlmikhcpjaaGreatDoor
open Go.RowKit
set_option linter.unusedVariables false
set_option linter.unusedSimpArgs false

theorem alt_500000 : altOut 500000 = [53, 48, 48, 48] := by
  show altOut ((500000 : Nat) : Int) = _
  rw [altOut_pos (by decide), altAbs_whole (by decide), decDigits_digs 9 (500000 / 100) (by decide) (by decide)]
  decide
def rA : List UInt8 := [65, 47, 75, 49]
def rB : List UInt8 := [66, 47, 75, 49]
def rC : List UInt8 := [67, 47, 75, 49]
def exNm : List UInt8 := [86, 49]
def exPts : List Pt := [⟨rA, 500000, 6000000, 0⟩, ⟨rB, -200000, 6000000, 1⟩, ⟨rC, -200000, 6000000, 0⟩]
theorem ex_chk : chkA exNm exPts = 0 := by decide
theorem ex_1 : expOut exNm exPts rA rC = ([⟨rB, 500000, 6000000, 0⟩, ⟨rC, -200000, 6000000, 0⟩], 0) := by kernel_rfl
theorem ex_2 : expOut exNm exPts rB rA = ([⟨rA, 500000, 6000000, 0⟩], 0) := by kernel_rfl
theorem ex_3 : (expOut exNm exPts rC rA).2 = 9 := by kernel_rfl
theorem ex_win : winOut 500000 6000000 = [53, 48, 48, 48, 43] := by
  unfold winOut winText
  rw [if_neg (by decide), if_neg (by decide), if_neg (by decide), if_pos (by decide), alt_500000]
  rfl
theorem ex_free : winOut (-200000) 6000000 = [45] := by
  unfold winOut winText
  rw [if_neg (by decide), if_pos (by decide)]
def exText : List UInt8 := [65, 73, 82, 87, 65, 89, 32, 86, 49, 10, 86, 73, 65, 32, 65, 47, 75, 49, 32, 53, 48, 48, 48, 43, 32, 66, 79, 84, 72, 10, 86, 73, 65, 32, 66, 47, 75, 49, 32, 45, 32, 70, 79, 82, 87, 65, 82, 68, 10, 86, 73, 65, 32, 67, 47, 75, 49, 10]
theorem ex_text : txOut exNm exPts = exText := by
  unfold txOut awText
  rw [if_pos ex_chk]
  show _ ++ (ptLine ⟨rA, 500000, 6000000, 0⟩ false ++ (ptLine ⟨rB, -200000, 6000000, 1⟩ false ++ (ptLine ⟨rC, -200000, 6000000, 0⟩ true ++ []))) = _
  unfold ptLine ptTail
  rw [if_neg (by decide), if_neg (by decide), if_pos rfl]
  simp only []
  rw [ex_win, ex_free]
  decide
theorem ex_next : nextL [⟨exNm, exPts⟩] rB = [⟨exNm, rC, -200000, 6000000⟩, ⟨exNm, rA, 500000, 6000000⟩] := by kernel_rfl
theorem ex_chkL : chkL [⟨exNm, exPts⟩] = 0 := by kernel_rfl
theorem ex_found : found [⟨exNm, exPts⟩] rC = [rC] := by kernel_rfl
theorem ex_reach : rcL [⟨exNm, exPts⟩] rC = [rC] := by
  unfold rcL reachL srt
  rw [if_pos ex_chkL, ex_found]
  exact List.mergeSort_singleton _
def ExPost (w : World) (e : Ending) (w' : World) : Prop := ∃ g, e = .returned (.agg #[.string (sb exNm), .slice (some ⟨g, 0, none⟩) 3 3]) ∧ PtsR w' (.slice (some ⟨g, 0, none⟩) 3 3) exPts ∧ Below w.heap.size w w'
set_option maxHeartbeats 1000000 in
theorem lfree_any (w : World) : Calls Tryz.prog 89 #[] w fun e w' => e = .returned (.agg #[.int .i64 (-200000), .int .i64 6000000]) ∧ w' = w.alloc (.cells #[.int .i64 (-200000), .int .i64 6000000] 72) := by
  go_enter Tryz.func89, Tryz.ntmps89
  go_wp2
  exact bodyPost_ret (v := .agg #[.int .i64 (-200000), .int .i64 6000000]) (by simp [results, Tryz.results89, go_sem]) rfl ⟨rfl, rfl⟩
set_option maxHeartbeats 1000000 in
theorem example_any (w : World) : Calls Tryz.prog 35 #[] w (ExPost w) := by
  go_enter Tryz.func35, Tryz.ntmps35
  go_wp2_with (go_at_call 89; refine (lfree_any _).mono ?_; rintro e w' ⟨rfl, rfl⟩)
  refine bodyPost_ret (v := .agg #[.string (sb exNm), .slice (some ⟨w.heap.size + 1 + 1 + 1, 0, none⟩) 3 3]) (by simp [results, Tryz.results35, go_sem]; rfl) rfl ⟨_, rfl, ⟨?_, ?_⟩, ?_⟩
  · have h := Rd.of_own (World.ownsRow_lit (base := 0) (e := 74) (size := 4) (((w.alloc (.cells #[.string (sb exNm), .slice (some ⟨w.heap.size + 1 + 1 + 1, 0, none⟩) 3 3] 36)).alloc (.cells #[.int .i64 (-200000), .int .i64 6000000] 72)).alloc (.cells #[.int .i64 (-200000), .int .i64 6000000] 72)) (ptcells exPts).toArray 3 (Nat.zero_le _) (by unfold maxLen; omega) rfl)
    simp only [World.size_alloc] at h
    exact h
  · intro p hp
    unfold maxLen
    simp only [exPts, List.mem_cons, List.not_mem_nil, or_false] at hp
    rcases hp with rfl | rfl | rfl <;> exact ⟨by decide, by decide⟩
  · exact ((((Below.refl _ _).alloc (Nat.le_refl _) _).alloc (by simp) _).alloc (by simp; omega) _).alloc (by simp; omega) _
end Go.Proofs.YtinkdlmikhcpjaaGreatDoor
namespace Go.Proofs.YtinkdlmikhcpjaaGreatDoor
open Go.RowKit
set_option linter.unusedVariables false
set_option linter.unusedSimpArgs false

theorem awsR_one {w : World} {pv : Value} {nm : List UInt8} {l : List Pt} (h : PtsR w pv l) (hn : nm.length ≤ maxLen) : AwsR (w.alloc (.cells #[.string (sb nm), pv] 36)) (.slice (some ⟨w.heap.size, 0, none⟩) 1 1) [⟨nm, l⟩] := by
  refine ⟨[.string (sb nm), pv], Rd.of_own (World.ownsRow_lit (base := 0) (e := 36) (size := 2) w #[.string (sb nm), pv] 1 (Nat.zero_le _) (by unfold maxLen; omega) rfl), ?_⟩
  intro k hk
  match k, hk with
  | 0, _ => exact ⟨pv, rfl, rfl, h.below ((Below.refl _ _).alloc (Nat.le_refl _) _), hn⟩
set_option maxRecDepth 100000 in
set_option maxHeartbeats 4000000 in
theorem awake_any (w : World) (E : Env w) :
    Calls Tryz.prog 13 #[] w fun e w' => e = .returned (.bool true) ∧ Below w.heap.size w w' := by
  go_enter Tryz.func13, Tryz.ntmps13
  go_wp2_with fail
  refine (example_any _).mono ?_
  rintro e w1 ⟨g, rfl, hP, hb1⟩
  have HP := Lib.hid hP
  have HB1 := Lib.hid hb1
  have E1 := Lib.hid (E.below hb1)
  have Q1 : Hid (BoxQ w1 (sb exNm) (.slice (some ⟨g, 0, none⟩) 3 3) (w1.alloc (.cells #[.string (sb exNm), .slice (some ⟨g, 0, none⟩) 3 3] 36))) := Below.refl _ _
  clear hP hb1
  go_wp2_with fail
  refine (expand_any (sb exNm) (sb rA) (sb rC) _ exPts _ (Q1.out.pts HP) (by decide)).mono ?_
  rintro e w2 ⟨v1, rfl, hv1, hb2⟩
  have Q2 := Lib.hid (Q1.out.then_ hb2)
  have c0 := Q2.out.c0
  have c1 := Q2.out.c1
  have cs := Q2.out.size
  rw [bl_sb, bl_sb, bl_sb, ex_1] at hv1
  rw [bl_sb, bl_sb, bl_sb, ex_1]
  have V1 := Lib.hid hv1
  clear hv1 hb2
  go_wp2_with fail
  refine (expand_any (sb exNm) (sb rB) (sb rA) _ exPts _ (Q2.out.pts HP) (by decide)).mono ?_
  rintro e w3 ⟨v2, rfl, hv2, hb3⟩
  have Q3 := Lib.hid (Q2.out.then_ hb3)
  have V1 := Lib.hid (V1.out.below hb3)
  clear c0 c1 cs
  have c0 := Q3.out.c0
  have c1 := Q3.out.c1
  have cs := Q3.out.size
  rw [bl_sb, bl_sb, bl_sb, ex_2] at hv2
  rw [bl_sb, bl_sb, bl_sb, ex_2]
  have V2 := Lib.hid hv2
  clear hv2 hb3
  go_wp2_with fail
  refine (expand_any (sb exNm) (sb rC) (sb rA) _ exPts _ (Q3.out.pts HP) (by decide)).mono ?_
  rintro e w4 ⟨v3, rfl, hv3, hb4⟩
  have Q4 := Lib.hid (Q3.out.then_ hb4)
  have hv1 := V1.out.below hb4
  have hv2 := V2.out.below hb4
  obtain ⟨A3, n3, rfl, _, _⟩ := hv3.form
  clear c0 c1 cs hv3 hb4 V1 V2
  have c0 := Q4.out.c0
  have c1 := Q4.out.c1
  have cs := Q4.out.size
  rw [bl_sb, bl_sb, bl_sb, ex_3]
  obtain ⟨g1, o1, m1, hA1, hg1, a0, a1, a2, a3⟩ := hv1.at_ (k := 0) (by decide)
  clear a2 a3
  obtain ⟨g1', o1', m1', hA1', hg1', b0, b1, b2, b3⟩ := hv1.at_ (k := 1) (by decide)
  clear b2 b3
  rw [hA1] at hA1'
  simp only [Value.slice.injEq, Option.some.injEq, Addr.mk.injEq, and_true, true_and] at hA1'
  obtain ⟨⟨rfl, rfl⟩, rfl⟩ := hA1'
  obtain ⟨g2, o2, m2, hA2, hg2, d0, d1, d2, d3⟩ := hv2.at_ (k := 0) (by decide)
  clear d2 d3
  subst hA1
  subst hA2
  clear hv1 hv2
  replace a1 : w4.cell? ⟨g1, o1 + 1, none⟩ = some (.int .i64 500000) := a1
  replace b0 : w4.cell? ⟨g1, o1 + 4, none⟩ = some (.string ⟨#[67, 47, 75, 49]⟩) := b0
  replace d0 : w4.cell? ⟨g2, o2, none⟩ = some (.string ⟨#[65, 47, 75, 49]⟩) := d0
  replace d1 : w4.cell? ⟨g2, o2 + 1, none⟩ = some (.int .i64 500000) := d1
  clear a0 b1
  have HB4 : Hid (Below w.heap.size w w4) := Below.then_ HB1.out Q4.out.below
  have E4 := Lib.hid (E.below HB4.out)
  go_wp2_with fail
  refine (text_any (sb exNm) _ exPts _ E4.out (Q4.out.pts HP) (by decide)).mono ?_
  rintro e w5 ⟨t, rfl, ht, hb5⟩
  have ht2 : t = ⟨exText.toArray⟩ := bl_inj (by have h := ht.out; rw [bl_sb, ex_text] at h; exact h)
  subst ht2
  rw [bl_sb, ex_chk]
  have Q5 := Lib.hid (Q4.out.then_ hb5)
  clear ht c0 c1 cs a1 b0 d0 d1 hg1 hg1' hg2
  have HB5 : Hid (Below w.heap.size w w5) := Below.then_ HB4.out hb5
  clear hb5
  have c0 := Q5.out.c0
  have c1 := Q5.out.c1
  have cs := Q5.out.size
  have ht2 : ((⟨exText.toArray⟩ : ByteArray).toList == [65, 73, 82, 87, 65, 89, 32, 86, 49, 10, 86, 73, 65, 32, 65, 47, 75, 49, 32, 53, 48, 48, 48, 43, 32, 66, 79, 84, 72, 10, 86, 73, 65, 32, 66, 47, 75, 49, 32, 45, 32, 70, 79, 82, 87, 65, 82, 68, 10, 86, 73, 65, 32, 67, 47, 75, 49, 10]) = true := by rw [bl_toList]; rfl
  go_wp2_with fail
  refine (next_any _ [⟨exNm, exPts⟩] (sb rB) _ (awsR_one (Q5.out.pts HP) (by decide))).mono ?_
  rintro e w6 ⟨v6, rfl, hv6, hb6⟩
  rw [ex_chkL]
  rw [bl_sb, ex_next] at hv6
  have Q6 := Lib.hid ((Q5.out.then_ ((Below.refl _ _).alloc (Nat.le_refl _) _)).then_ hb6)
  have HB6 : Hid (Below w.heap.size w w6) := Below.then_ (HB5.out.alloc HB5.out.size _) hb6
  have V6 := Lib.hid hv6
  clear ht2 hv6 hb6 c0 c1 cs
  have c0 := Q6.out.c0
  have c1 := Q6.out.c1
  have cs := Q6.out.size
  go_wp2_with fail
  refine (reachT_any _ [⟨exNm, exPts⟩] (sb rC) _ (awsR_one (Q6.out.pts HP) (by decide)) (by decide)).mono ?_
  rintro e w7 ⟨v7, rfl, hv7, hb7⟩
  rw [ex_chkL]
  rw [bl_sb, ex_reach] at hv7
  have hv6 := V6.out.below (((Below.refl w6.heap.size w6).alloc (Nat.le_refl _) _).trans (hb7.mono (by simp)))
  have HB7 : Hid (Below w.heap.size w w7) := Below.then_ (HB6.out.alloc HB6.out.size _) hb7
  obtain ⟨g6, o6, m6, hA6, hg6, a0, a1, a2, a3⟩ := hv6.at_ (k := 0) (by decide)
  obtain ⟨g6', o6', m6', hA6', hg6', b0, b1, b2, b3⟩ := hv6.at_ (k := 1) (by decide)
  obtain ⟨g7, o7, m7, hA7, hg7, d0⟩ := hv7.at_ (k := 0) (by decide)
  clear a2 a3 b2 b3 a0 b0 hb7 hv6 hv7 V6 c0 c1 cs
  rw [hA6] at hA6'
  simp only [Value.slice.injEq, Option.some.injEq, Addr.mk.injEq, and_true, true_and] at hA6'
  obtain ⟨⟨rfl, rfl⟩, rfl⟩ := hA6'
  subst hA6
  subst hA7
  replace a1 : w7.cell? ⟨g6, o6 + 1, none⟩ = some (.string ⟨#[67, 47, 75, 49]⟩) := a1
  replace b1 : w7.cell? ⟨g6, o6 + 5, none⟩ = some (.string ⟨#[65, 47, 75, 49]⟩) := b1
  replace d0 : w7.cell? ⟨g7, o7, none⟩ = some (.string ⟨#[67, 47, 75, 49]⟩) := d0
  go_wp2
  go_ret
  exact ⟨rfl, HB7.out⟩
end Go.Proofs.YtinkdlmikhcpjaaGreatDoor
