/-
  Contract: the law's awake answers true.
-/
import Derived.Test.YtgnnblkpjankgaaGreatDoorEx
namespace Go.Proofs.YtgnnblkpjankgaaGreatDoor
open Go.RowKit
set_option linter.unusedVariables false
set_option linter.unusedSimpArgs false

theorem awsR_one {w : World} {pv : Value} {nm : List UInt8} {l : List Pt} (h : PtsR w pv l) (hn : nm.length ≤ maxLen) : AwsR (w.alloc (.cells #[.string (sb nm), pv] 63)) (.slice (some ⟨w.heap.size, 0, none⟩) 1 1) [⟨nm, l⟩] := by
  refine ⟨[.string (sb nm), pv], Rd.of_own (World.ownsRow_lit (base := 0) (e := 63) (size := 2) w #[.string (sb nm), pv] 1 (Nat.zero_le _) (by unfold maxLen; omega) rfl), ?_⟩
  intro k hk
  match k, hk with
  | 0, _ => exact ⟨pv, rfl, rfl, h.below ((Below.refl _ _).alloc (Nat.le_refl _) _), hn⟩
set_option maxRecDepth 100000 in
set_option maxHeartbeats 4000000 in
theorem awake_any (w : World) (E : Env w) :
    Calls Tryz.prog 7 #[] w fun e w' => e = .returned (.bool true) ∧ Below w.heap.size w w' := by
  go_enter Tryz.func7, Tryz.ntmps7
  go_wp2_with fail
  refine (example_any _).mono ?_
  rintro e w1 ⟨g, rfl, hP, hb1⟩
  have HP := Lib.hid hP
  have HB1 := Lib.hid hb1
  have E1 := Lib.hid (E.below hb1)
  have Q1 : Hid (BoxQ w1 (sb exNm) (.slice (some ⟨g, 0, none⟩) 3 3) (w1.alloc (.cells #[.string (sb exNm), .slice (some ⟨g, 0, none⟩) 3 3] 63))) := Below.refl _ _
  clear hP hb1
  go_wp2_with fail
  refine (expand_any (sb exNm) (sb rA) (sb rC) _ exPts _ (Q1.out.pts HP) (by decide)).mono ?_
  rintro e w2 ⟨v1, rfl, hv1, hb2⟩
  have Q2 := Lib.hid (Q1.out.then_ hb2)
  have c0 := Q2.out.c0
  have c1 := Q2.out.c1
  have cs := Q2.out.size
  rw [bl_sb, bl_sb, bl_sb, ex_1] at hv1
  rw [bl_sb, bl_sb, bl_sb, ex_1]
  have V1 := Lib.hid hv1
  clear hv1 hb2
  go_wp2_with fail
  refine (expand_any (sb exNm) (sb rB) (sb rA) _ exPts _ (Q2.out.pts HP) (by decide)).mono ?_
  rintro e w3 ⟨v2, rfl, hv2, hb3⟩
  have Q3 := Lib.hid (Q2.out.then_ hb3)
  have V1 := Lib.hid (V1.out.below hb3)
  clear c0 c1 cs
  have c0 := Q3.out.c0
  have c1 := Q3.out.c1
  have cs := Q3.out.size
  rw [bl_sb, bl_sb, bl_sb, ex_2] at hv2
  rw [bl_sb, bl_sb, bl_sb, ex_2]
  have V2 := Lib.hid hv2
  clear hv2 hb3
  go_wp2_with fail
  refine (expand_any (sb exNm) (sb rC) (sb rA) _ exPts _ (Q3.out.pts HP) (by decide)).mono ?_
  rintro e w4 ⟨v3, rfl, hv3, hb4⟩
  have Q4 := Lib.hid (Q3.out.then_ hb4)
  have hv1 := V1.out.below hb4
  have hv2 := V2.out.below hb4
  obtain ⟨A3, n3, rfl, _, _⟩ := hv3.form
  clear c0 c1 cs hv3 hb4 V1 V2
  have c0 := Q4.out.c0
  have c1 := Q4.out.c1
  have cs := Q4.out.size
  rw [bl_sb, bl_sb, bl_sb, ex_3]
  obtain ⟨g1, o1, m1, hA1, hg1, a0, a1, a2, a3⟩ := hv1.at_ (k := 0) (by decide)
  clear a2 a3
  obtain ⟨g1', o1', m1', hA1', hg1', b0, b1, b2, b3⟩ := hv1.at_ (k := 1) (by decide)
  clear b2 b3
  rw [hA1] at hA1'
  simp only [Value.slice.injEq, Option.some.injEq, Addr.mk.injEq, and_true, true_and] at hA1'
  obtain ⟨⟨rfl, rfl⟩, rfl⟩ := hA1'
  obtain ⟨g2, o2, m2, hA2, hg2, d0, d1, d2, d3⟩ := hv2.at_ (k := 0) (by decide)
  clear d2 d3
  subst hA1
  subst hA2
  clear hv1 hv2
  replace a1 : w4.cell? ⟨g1, o1 + 1, none⟩ = some (.int .i64 500000) := a1
  replace b0 : w4.cell? ⟨g1, o1 + 4, none⟩ = some (.string ⟨#[67, 47, 75, 49]⟩) := b0
  replace d0 : w4.cell? ⟨g2, o2, none⟩ = some (.string ⟨#[65, 47, 75, 49]⟩) := d0
  replace d1 : w4.cell? ⟨g2, o2 + 1, none⟩ = some (.int .i64 500000) := d1
  clear a0 b1
  have HB4 : Hid (Below w.heap.size w w4) := Below.then_ HB1.out Q4.out.below
  have E4 := Lib.hid (E.below HB4.out)
  go_wp2_with fail
  refine (text_any (sb exNm) _ exPts _ E4.out (Q4.out.pts HP) (by decide)).mono ?_
  rintro e w5 ⟨t, rfl, ht, hb5⟩
  have ht2 : t = ⟨exText.toArray⟩ := bl_inj (by have h := ht.out; rw [bl_sb, ex_text] at h; exact h)
  subst ht2
  rw [bl_sb, ex_chk]
  have Q5 := Lib.hid (Q4.out.then_ hb5)
  clear ht c0 c1 cs a1 b0 d0 d1 hg1 hg1' hg2
  have HB5 : Hid (Below w.heap.size w w5) := Below.then_ HB4.out hb5
  clear hb5
  have c0 := Q5.out.c0
  have c1 := Q5.out.c1
  have cs := Q5.out.size
  have ht2 : ((⟨exText.toArray⟩ : ByteArray).toList == [65, 73, 82, 87, 65, 89, 32, 86, 49, 10, 86, 73, 65, 32, 65, 47, 75, 49, 32, 53, 48, 48, 48, 43, 32, 66, 79, 84, 72, 10, 86, 73, 65, 32, 66, 47, 75, 49, 32, 45, 32, 70, 79, 82, 87, 65, 82, 68, 10, 86, 73, 65, 32, 67, 47, 75, 49, 10]) = true := by rw [bl_toList]; rfl
  go_wp2_with fail
  refine (next_any _ [⟨exNm, exPts⟩] (sb rB) _ (awsR_one (Q5.out.pts HP) (by decide))).mono ?_
  rintro e w6 ⟨v6, rfl, hv6, hb6⟩
  rw [ex_chkL]
  rw [bl_sb, ex_next] at hv6
  have Q6 := Lib.hid ((Q5.out.then_ ((Below.refl _ _).alloc (Nat.le_refl _) _)).then_ hb6)
  have HB6 : Hid (Below w.heap.size w w6) := Below.then_ (HB5.out.alloc HB5.out.size _) hb6
  have V6 := Lib.hid hv6
  clear ht2 hv6 hb6 c0 c1 cs
  have c0 := Q6.out.c0
  have c1 := Q6.out.c1
  have cs := Q6.out.size
  go_wp2_with fail
  refine (reachT_any _ [⟨exNm, exPts⟩] (sb rC) _ (awsR_one (Q6.out.pts HP) (by decide)) (by decide)).mono ?_
  rintro e w7 ⟨v7, rfl, hv7, hb7⟩
  rw [ex_chkL]
  rw [bl_sb, ex_reach] at hv7
  have hv6 := V6.out.below (((Below.refl w6.heap.size w6).alloc (Nat.le_refl _) _).trans (hb7.mono (by simp)))
  have HB7 : Hid (Below w.heap.size w w7) := Below.then_ (HB6.out.alloc HB6.out.size _) hb7
  obtain ⟨g6, o6, m6, hA6, hg6, a0, a1, a2, a3⟩ := hv6.at_ (k := 0) (by decide)
  obtain ⟨g6', o6', m6', hA6', hg6', b0, b1, b2, b3⟩ := hv6.at_ (k := 1) (by decide)
  obtain ⟨g7, o7, m7, hA7, hg7, d0⟩ := hv7.at_ (k := 0) (by decide)
  clear a2 a3 b2 b3 a0 b0 hb7 hv6 hv7 V6 c0 c1 cs
  rw [hA6] at hA6'
  simp only [Value.slice.injEq, Option.some.injEq, Addr.mk.injEq, and_true, true_and] at hA6'
  obtain ⟨⟨rfl, rfl⟩, rfl⟩ := hA6'
  subst hA6
  subst hA7
  replace a1 : w7.cell? ⟨g6, o6 + 1, none⟩ = some (.string ⟨#[67, 47, 75, 49]⟩) := a1
  replace b1 : w7.cell? ⟨g6, o6 + 5, none⟩ = some (.string ⟨#[65, 47, 75, 49]⟩) := b1
  replace d0 : w7.cell? ⟨g7, o7, none⟩ = some (.string ⟨#[67, 47, 75, 49]⟩) := d0
  go_wp2
  go_ret
  exact ⟨rfl, HB7.out⟩
end Go.Proofs.YtgnnblkpjankgaaGreatDoor
