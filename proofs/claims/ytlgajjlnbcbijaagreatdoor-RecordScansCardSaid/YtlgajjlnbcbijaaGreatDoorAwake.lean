/-
  Contract: the law's awake answers true.
-/
import Derived.Test.YtlgajjlnbcbijaaGreatDoorRead
namespace Go.Proofs.YtlgajjlnbcbijaaGreatDoor
open Go.RowKit
set_option linter.unusedVariables false
set_option linter.unusedSimpArgs false

theorem alt_500025 : altOut 500025 = [53, 48, 48, 48, 46, 50, 53] := by
  show altOut ((500025 : Nat) : Int) = _
  rw [altOut_pos (by decide), altAbs_part (by decide), decDigits_digs 9 (500025 / 100) (by decide) (by decide), decDigits_digs 9 (500025 % 100 / 10) (by decide) (by decide), decDigits_digs 9 (500025 % 10) (by decide) (by decide)]
  decide
theorem alt_300000 : altOut 300000 = [51, 48, 48, 48] := by
  show altOut ((300000 : Nat) : Int) = _
  rw [altOut_pos (by decide), altAbs_whole (by decide), decDigits_digs 9 (300000 / 100) (by decide) (by decide)]
  decide
theorem alt_500000 : altOut 500000 = [53, 48, 48, 48] := by
  show altOut ((500000 : Nat) : Int) = _
  rw [altOut_pos (by decide), altAbs_whole (by decide), decDigits_digs 9 (500000 / 100) (by decide) (by decide)]
  decide
theorem win_3000 : winSpec [51, 48, 48, 48, 58, 53, 48, 48, 48] = some (300000, 500000) := by decide
theorem winOut_3000 : winOut 300000 500000 = [51, 48, 48, 48, 58, 53, 48, 48, 48] := by
  unfold winOut winText
  rw [if_neg (by decide), if_neg (by decide), if_neg (by decide), if_neg (by decide), if_neg (by decide), alt_300000, alt_500000]
  decide
theorem pw_3000 (w : World) (E : Env w) :
    Calls Tryz.prog 91 #[.string ⟨#[51, 48, 48, 48, 58, 53, 48, 48, 48]⟩] w fun e w' => e = .returned (.tuple #[.agg #[.int .i64 300000, .int .i64 500000], .int .i64 0]) ∧ Below w.heap.size w w' := by
  refine (parseWindow_any _ w E (by decide)).mono ?_
  intro e w' h
  have hl : bl ⟨#[51, 48, 48, 48, 58, 53, 48, 48, 48]⟩ = [51, 48, 48, 48, 58, 53, 48, 48, 48] := rfl
  have h3 := pw_ok (l := [51, 48, 48, 48, 58, 53, 48, 48, 48]) (a := 300000) (b := 500000) (by decide) (by decide) (by decide) winOut_3000
  unfold PwPost at h
  rw [hl, win_3000, ← h3.1, ← h3.2.1, ← h3.2.2] at h
  exact h
theorem recs_awake : readRecs [65, 32, 32, 66, 49, 32, 35, 32, 120, 10, 10, 32, 67] = [(1, [([65], 1), ([66, 49], 4)]), (3, [([67], 2)])] := by decide
theorem dgs_awake : readDgs [65, 32, 32, 66, 49, 32, 35, 32, 120, 10, 10, 32, 67] = [] := by decide
/-- two records in memory -/
theorem recs_two {w : World} {v : Value} {r0 r1 : Rec} {f0 f1 : Fld} (h : RecsR w v [r0, r1]) (h0 : r0.2 = [f0, f1]) :
    ∃ g o c A c0 fv1, v = .slice (some ⟨g, o, none⟩) 2 c ∧ g < w.heap.size ∧ w.cell? ⟨g, o, none⟩ = some (.int .i64 (r0.1 : Int)) ∧ w.cell? ⟨g, o + 1, none⟩ = some (.slice (some A) 2 c0) ∧ w.cell? ⟨g, o + 2, none⟩ = some (.int .i64 (r1.1 : Int)) ∧ w.cell? ⟨g, o + 3, none⟩ = some fv1 ∧
      A.spot = none ∧ A.block < w.heap.size ∧ w.cell? ⟨A.block, A.off, none⟩ = some (.string (sb f0.1)) ∧ w.cell? ⟨A.block, A.off + 1, none⟩ = some (.int .i64 (f0.2 : Int)) ∧ w.cell? ⟨A.block, A.off + 2, none⟩ = some (.string (sb f1.1)) ∧ w.cell? ⟨A.block, A.off + 3, none⟩ = some (.int .i64 (f1.2 : Int)) := by
  obtain ⟨L, h1, ⟨⟨hl, A, c, rfl, hc, hm, hx⟩, _⟩, hf⟩ := h
  match L, h1 with
  | [(a, va), (b, vb)], h1 =>
    simp only [List.map_cons, List.map_nil, List.cons.injEq, and_true] at h1
    obtain ⟨rfl, rfl⟩ := h1
    obtain ⟨g, o, rfl, hg, hcell⟩ := hx (by simp)
    obtain ⟨⟨kl, A, c0, hva, kc, km, kx⟩, _⟩ := hf (a, va) (by simp)
    simp only [] at hva kl kc kx
    rw [h0] at hva kc kx kl
    obtain ⟨g0, o0, rfl, hg0, hcell0⟩ := kx (by simp)
    subst hva
    exact ⟨g, o, c, ⟨g0, o0, none⟩, c0, vb, rfl, hg, hcell 0 _ rfl, hcell 1 _ rfl, hcell 2 _ rfl, hcell 3 _ rfl, rfl, hg0, hcell0 0 _ rfl, hcell0 1 _ rfl, hcell0 2 _ rfl, hcell0 3 _ rfl⟩

set_option maxRecDepth 100000 in
set_option maxHeartbeats 2000000 in
theorem awake_any (w : World) (E : Env w) :
    Calls Tryz.prog 23 #[] w fun e w' => e = .returned (.bool true) ∧ Below w.heap.size w w' := by
  go_enter Tryz.func23, Tryz.ntmps23
  go_wp2_with fail
  refine (read_any _ _ E (by unfold maxLen; decide)).mono ?_
  rintro e w1 ⟨v, d, rfl, hr, hd, hb1⟩
  have hr2 : RecsR w1 v [(1, [([65], 1), ([66, 49], 4)]), (3, [([67], 2)])] := by
    have h : bl ⟨#[65, 32, 32, 66, 49, 32, 35, 32, 120, 10, 10, 32, 67]⟩ = [65, 32, 32, 66, 49, 32, 35, 32, 120, 10, 10, 32, 67] := rfl
    rw [h, recs_awake] at hr
    exact hr
  have hd2 : DgsR w1 d [] := by
    have h : bl ⟨#[65, 32, 32, 66, 49, 32, 35, 32, 120, 10, 10, 32, 67]⟩ = [65, 32, 32, 66, 49, 32, 35, 32, 120, 10, 10, 32, 67] := rfl
    rw [h, dgs_awake] at hd
    exact hd
  clear hr hd
  obtain ⟨Ad, cd, rfl, _⟩ := hd2.1.form
  obtain ⟨g, o, c, ⟨g0, o0, sp⟩, c0, fv1, rfl, hg, k0, k1, k2, k3, rfl, hg0, m0, m1, m2, m3⟩ := recs_two hr2 rfl
  clear hr2 hd2
  have E1 := E.below hb1
  go_wp2_with fail
  refine (altText_any 500025 _ E1).mono ?_
  rintro e w2 ⟨t, rfl, ht, hts, hb2⟩
  have ht2 : (t.toList == [53, 48, 48, 48, 46, 50, 53]) = true := by rw [bl_toList, ht.out, alt_500025]; rfl
  have he : altErr 500025 = 0 := rfl
  rw [he]
  have E2 := E1.below hb2
  go_wp2_with fail
  refine (pw_3000 _ E2).mono ?_
  rintro e w3 ⟨rfl, hb3⟩
  have hb13 := Below.then_ hb2 hb3
  have hg3 : g < w3.heap.size := Nat.lt_of_lt_of_le hg hb13.size
  have hg03 : g0 < w3.heap.size := Nat.lt_of_lt_of_le hg0 hb13.size
  have k0 := (hb13.cell (p := ⟨g, o, none⟩) hg).trans k0
  have k1 := (hb13.cell (p := ⟨g, o + 1, none⟩) hg).trans k1
  have k2 := (hb13.cell (p := ⟨g, o + 2, none⟩) hg).trans k2
  have k3 := (hb13.cell (p := ⟨g, o + 3, none⟩) hg).trans k3
  have m0 := (hb13.cell (p := ⟨g0, o0, none⟩) hg0).trans m0
  have m1 := (hb13.cell (p := ⟨g0, o0 + 1, none⟩) hg0).trans m1
  have m2 : w3.cell? ⟨g0, o0 + 2, none⟩ = some (.string ⟨#[66, 49]⟩) := (hb13.cell (p := ⟨g0, o0 + 2, none⟩) hg0).trans m2
  have m3 : w3.cell? ⟨g0, o0 + 3, none⟩ = some (.int .i64 4) := (hb13.cell (p := ⟨g0, o0 + 3, none⟩) hg0).trans m3
  go_wp2
  go_ret
  exact ⟨rfl, (Below.then_ hb1 hb13).alloc (by have := (Below.then_ hb1 hb13).size; omega) _⟩
end Go.Proofs.YtlgajjlnbcbijaaGreatDoor
