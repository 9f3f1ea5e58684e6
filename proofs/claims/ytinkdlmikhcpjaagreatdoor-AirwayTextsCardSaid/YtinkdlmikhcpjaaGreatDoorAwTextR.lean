/-
  Contract: the text of an airway, by the reference.
-/
import Derived.Test.YtinkdlmikhcpjaaGreatDoorMHop
namespace Go.Proofs.YtinkdlmikhcpjaaGreatDoor
open Go.RowKit
set_option linter.unusedVariables false
set_option linter.unusedSimpArgs false

set_option maxRecDepth 100000 in
set_option maxHeartbeats 4000000 in
theorem rtext15_any (nm : ByteArray) (v : Value) (l : List Pt) (w : World) (E : Env w) (h : PtsR w v l) (hnm : nm.size ≤ maxLen) :
    Calls Tryz.prog 23 #[.agg #[.string nm, v]] w (TxPost (bl nm) l w) := by
  obtain ⟨A, c, rfl, hc, hm⟩ := h.form
  unfold maxLen at hm
  have H := Lib.hid h
  clear h
  obtain ⟨n, hnn⟩ : ∃ n, l.length = n := ⟨_, rfl⟩
  rw [hnn] at hc H
  rw [hnn]
  have HN := Lib.hid hnn
  clear hnn
  have HPOST : Hid (∀ (t : ByteArray) (er : Int) (w' : World), chkA (bl nm) l = er → Hid (bl t = txOut (bl nm) l) → Below w.heap.size w w' → TxPost (bl nm) l w (.returned (.tuple #[.string t, .int .i64 er])) w') := fun t er w' h1 h2 h3 => ⟨t, by rw [h1], h2, h3⟩
  have Q0 : Hid (BoxQ w nm (.slice A n c) (w.alloc (.cells #[.string nm, .slice A n c] 36))) := Below.refl _ _
  go_enter Tryz.func23, Tryz.ntmps23
  go_wp2_with fail
  refine (rcheck_any nm _ l _ (Q0.out.pts H) hnm).mono ?_
  rintro e1 w1 ⟨rfl, hb1⟩
  have Q1 := Lib.hid (Q0.out.then_ hb1)
  have b0 := Q1.out.c0
  have b1 := Q1.out.c1
  have bs := Q1.out.size
  clear hb1
  obtain ⟨ch, hch⟩ : ∃ ch, chkA (bl nm) l = ch := ⟨_, rfl⟩
  rw [hch]
  have HC := Lib.hid hch
  clear hch
  by_cases h0 : ch = 0
  · have e1 : (ch != 0) = false := by rw [h0]; rfl
    have H0 := Lib.hid h0
    have HAS := Lib.hid (chk_has (HC.out.trans h0))
    clear h0
    have hn8 : nm.size ≤ 8 := HAS.out.1
    have hn40 : n ≤ 40 := by have := HAS.out.2.2.1; rw [HN.out] at this; exact this
    have HTX : Hid (txOut (bl nm) l = bl ((⟨#[65, 73, 82, 87, 65, 89, 32]⟩ : ByteArray) ++ nm ++ ⟨#[10]⟩) ++ ptLines (l.drop 0)) := by
      unfold Hid txOut; rw [if_pos (by rw [HC.out]; exact H0.out), bl_append, bl_append]; rfl
    go_wp2_with fail
    go_loopw [5, 22] (fun ov iv wr => ∃ (k : Nat) (t : ByteArray), ov = .string t ∧ iv = .int .i64 k ∧ k ≤ n ∧ Hid (txOut (bl nm) l = bl t ++ ptLines (l.drop k)) ∧ t.size ≤ 20 + k * 200000 ∧ Hid (BoxQ w nm (.slice A n c) wr)) (fun _ iv _ => n - (intOf iv).toNat)
    case atStart => exact ⟨0, _, rfl, rfl, Nat.zero_le _, HTX, by simp only [ByteArray.size_append]; show 7 + nm.size + 1 ≤ _; omega, Q1⟩
    case round =>
      obtain ⟨k, t, rfl, rfl, hk, htx, htl, Q4⟩ := hrel
      have b1 := Q4.out.c1
      have bs4 := Q4.out.size
      by_cases hlt : k < n
      · have hkl : k < l.length := by rw [HN.out]; exact hlt
        obtain ⟨g, o, cx, hA, hg, x0, x1, x2, x3⟩ := H.out.at_ hkl
        rw [HN.out] at hA
        simp only [Value.slice.injEq, true_and] at hA
        obtain ⟨rfl, rfl⟩ := hA
        have hbw := Q4.out.below
        have y0 := (hbw.cell (p := ⟨g, o + k * 4, none⟩) hg).trans x0
        have y1 := (hbw.cell (p := ⟨g, o + k * 4 + 1, none⟩) hg).trans x1
        have y2 := (hbw.cell (p := ⟨g, o + k * 4 + 2, none⟩) hg).trans x2
        have y3 := (hbw.cell (p := ⟨g, o + k * 4 + 3, none⟩) hg).trans x3
        have hst := ptLines_step hkl
        have hhas := HAS.out.2.2.2 k hkl
        obtain ⟨p, hp⟩ : ∃ p, l[k] = p := ⟨_, rfl⟩
        rw [hp] at y0 y1 y2 y3 hst hhas
        rw [HN.out] at hst hhas
        have HST := Lib.hid hst
        have HHAS := Lib.hid hhas
        have hr13 : (sb p.ref).size ≤ 13 := hhas.1
        clear x0 x1 x2 x3 hst hhas hp hbw
        have hki : (k : Int) < (n : Int) := by omega
        obtain ⟨B2, hB2⟩ : ∃ B2, wr.heap.size = B2 := ⟨_, rfl⟩
        have HB2 := Lib.hid hB2
        have Q5 : Hid (BoxQ w nm (.slice (some ⟨g, o, none⟩) n c) (wr.alloc (.cells #[.string (sb p.ref), .int .i64 p.lo, .int .i64 p.hi, .int .u8 (p.dir : Int)] 74))) := Q4.out.then_ ((Below.refl _ _).alloc (Nat.le_refl _) _)
        clear hB2
        rcases Nat.lt_or_ge (k + 1) n with hl2 | hl2
        · have hi1 : (k : Int) < (n : Int) - 1 := by omega
          have hd2 := (HHAS.out.2.1 (by omega)).1
          have E5 := E.below Q5.out.below
          go_wp2_with fail
          refine (rwinText_any p.lo p.hi _).mono ?_
          rintro e w7 ⟨u, rfl, hu, hb7⟩
          have hus : u.size ≤ 140004 := by rw [← bl_len, hu.out]; exact winOut_len _ _
          have Q7 := Lib.hid (Q5.out.then_ hb7)
          have z3 : w7.cell? ⟨wr.heap.size, 3, none⟩ = some (.int .u8 (p.dir : Int)) := (hb7.cell (p := ⟨wr.heap.size, 3, none⟩) (by simp)).trans (by simp [go_sem])
          have hB7 : wr.heap.size < w7.heap.size := Nat.lt_of_lt_of_le (by simp) hb7.size
          have b1 := Q7.out.c1
          have bs7 := Q7.out.size
          have hd0 : (0 : Int) ≤ (p.dir : Int) := by omega
          have hd3 : (p.dir : Int) < 3 := by omega
          have hd4 : p.dir < 3 := by omega
          have hdc := dirWord_cell hd2 w7
          have hdw : (sb (dirWord p.dir)).size ≤ 8 := dirWord_len _
          have HN2 : Hid (txOut (bl nm) l = bl (t ++ ((⟨#[86, 73, 65, 32]⟩ : ByteArray) ++ sb p.ref) ++ ((⟨#[32]⟩ : ByteArray) ++ u ++ ⟨#[32]⟩ ++ sb (dirWord p.dir)) ++ ⟨#[10]⟩) ++ ptLines (l.drop (k + 1))) := by
            unfold Hid
            rw [htx.out, HST.out]
            have e : decide (n ≤ k + 1) = false := decide_eq_false (by omega)
            rw [e]
            unfold ptLine ptTail
            simp only [bl_append, bl_sb, bl_mk, hu.out, Bool.false_eq_true, if_false, List.append_assoc, List.cons_append, List.nil_append]
          have Q8 : Hid (BoxQ w nm (.slice (some ⟨g, o, none⟩) n c) (w7.alloc (.cells #[.string ⟨#[66, 79, 84, 72]⟩, .string ⟨#[70, 79, 82, 87, 65, 82, 68]⟩, .string ⟨#[66, 65, 67, 75, 87, 65, 82, 68]⟩] 9))) := Q7.out.then_ ((Below.refl _ _).alloc (Nat.le_refl _) _)
          have hsz2 : (t ++ ((⟨#[86, 73, 65, 32]⟩ : ByteArray) ++ sb p.ref) ++ ((⟨#[32]⟩ : ByteArray) ++ u ++ ⟨#[32]⟩ ++ sb (dirWord p.dir)) ++ ⟨#[10]⟩).size ≤ 20 + (k + 1) * 200000 := by
            simp only [ByteArray.size_append]
            show t.size + (4 + (sb p.ref).size) + (1 + u.size + 1 + (sb (dirWord p.dir)).size) + 1 ≤ _
            omega
          clear hb7
          go_wp2
          go_roundw
          case rel => exact ⟨k + 1, _, rfl, by go_num, hlt, HN2, hsz2, Q8⟩
          case measure => simp [intOf]; omega
        · have hi1 : (n : Int) - 1 ≤ (k : Int) := by omega
          have HN2 : Hid (txOut (bl nm) l = bl (t ++ ((⟨#[86, 73, 65, 32]⟩ : ByteArray) ++ sb p.ref) ++ ⟨#[10]⟩) ++ ptLines (l.drop (k + 1))) := by
            unfold Hid
            rw [htx.out, HST.out]
            have e : decide (n ≤ k + 1) = true := decide_eq_true (by omega)
            rw [e]
            unfold ptLine ptTail
            simp only [bl_append, bl_sb, bl_mk, if_true, List.append_assoc, List.cons_append, List.nil_append]
          have hsz2 : (t ++ ((⟨#[86, 73, 65, 32]⟩ : ByteArray) ++ sb p.ref) ++ ⟨#[10]⟩).size ≤ 20 + (k + 1) * 200000 := by
            simp only [ByteArray.size_append]
            show t.size + (4 + (sb p.ref).size) + 1 ≤ _
            omega
          go_wp2
          go_roundw
          case rel => exact ⟨k + 1, _, rfl, by go_num, hlt, HN2, hsz2, Q5⟩
          case measure => simp [intOf]; omega
      · have HE : Hid (bl t = txOut (bl nm) l) := by
          unfold Hid
          rw [htx.out, ptLines_end (by have := HN.out; omega), List.append_nil]
        go_wp2
        go_ret2
        exact HPOST.out _ _ _ (HC.out.trans H0.out) HE Q4.out.below
  · have e1 : (ch != 0) = true := bne_iff_ne.2 h0
    have H0 := Lib.hid h0
    clear h0
    go_wp2
    go_ret2
    exact HPOST.out _ _ _ HC.out (by unfold Hid txOut; rw [if_neg (by rw [HC.out]; exact H0.out)]; rfl) Q1.out.below
end Go.Proofs.YtinkdlmikhcpjaaGreatDoor
