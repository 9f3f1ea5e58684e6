/-
  Contracts: absolute values, ranges, the search for the last place, the angle of two sides; both sides.
-/
import Derived.Test.YtgnnblkpjankgaaGreatDoorTrigW
namespace Go.Proofs.YtgnnblkpjankgaaGreatDoor
open Go.RowKit
set_option linter.unusedVariables false
set_option linter.unusedSimpArgs false

theorem abs_any (x : Int) (w : World) (h1 : -4611686018427387904 ≤ x) (h2 : x ≤ 4611686018427387904) :
    Calls Tryz.prog 43 #[.int .i64 x] w fun e w' => e = .returned (.int .i64 (x.natAbs : Int)) ∧ w = w' := by
  have e1 : (x == -9223372036854775808) = false := beq_eq_false_iff_ne.2 (by omega)
  by_cases h0 : x < 0
  · have HX : Hid (-x = (x.natAbs : Int)) := by unfold Hid; omega
    go_enter Tryz.func43, Tryz.ntmps43
    go_wp2
    go_ret
    exact ⟨ret_int HX.out, rfl⟩
  · have HX : Hid (x = (x.natAbs : Int)) := by unfold Hid; omega
    have h3 : 0 ≤ x := by omega
    go_enter Tryz.func43, Tryz.ntmps43
    go_wp2
    go_ret
    exact ⟨ret_int HX.out, rfl⟩
theorem tout_any (x : Int) (w : World) (h1 : -2147483647 ≤ x) (h2 : x ≤ 2147483647) :
    Calls Tryz.prog 64 #[.int .i64 x] w fun e w' => e = .returned (.bool false) ∧ w = w' := by
  have d1 : decide (2147483647 < x) = false := decide_eq_false (by omega)
  have d2 : decide (x < -2147483647) = false := decide_eq_false (by omega)
  go_enter Tryz.func64, Tryz.ntmps64
  go_wp2
  go_ret
  exact ⟨rfl, rfl⟩
theorem rtout_any (x : Int) (w : World) (h1 : -2147483647 ≤ x) (h2 : x ≤ 2147483647) :
    Calls Tryz.prog 99 #[.int .i64 x] w fun e w' => e = .returned (.bool false) ∧ w = w' := by
  have d1 : decide (2147483647 < x) = false := decide_eq_false (by omega)
  have d2 : decide (x < -2147483647) = false := decide_eq_false (by omega)
  go_enter Tryz.func99, Tryz.ntmps99
  go_wp2
  go_ret
  exact ⟨rfl, rfl⟩
set_option maxHeartbeats 1000000 in
theorem search_any (n g b : Nat) (w : World) (hn : n ≤ 1000000000) (hg : g ≤ n)
    (hclo : ∀ (W : World) (h : Nat), h < n → Below w.heap.size w W → Calls Tryz.prog 87 #[.int .i64 (h : Int), .pointer (some ⟨b, 0, none⟩)] W fun e w' => e = .returned (.bool (decide (g ≤ h))) ∧ Below W.heap.size W w') :
    Calls Tryz.prog 86 #[.int .i64 (n : Int), .func (.func 87) #[] #[.pointer (some ⟨b, 0, none⟩)]] w fun e w' => e = .returned (.int .i64 (g : Int)) ∧ Below w.heap.size w w' := by
  have HC := Lib.hid hclo
  clear hclo
  go_enter Tryz.func86, Tryz.ntmps86
  go_wp2_with fail
  go_loopw [5, 6] (fun i j wr => ∃ x y : Nat, x ≤ g ∧ g ≤ y ∧ y ≤ n ∧ i = .int .i64 (x : Int) ∧ j = .int .i64 (y : Int) ∧ Below w.heap.size w wr) (fun i j _ => (intOf j).toNat - (intOf i).toNat)
  case atStart => exact ⟨0, n, Nat.zero_le _, hg, Nat.le_refl _, rfl, rfl, Below.refl _ _⟩
  case round =>
    obtain ⟨x, y, hx, hy, hyn, rfl, rfl, hbr⟩ := hrel
    by_cases hlt : x < y
    · obtain ⟨m, hm⟩ : ∃ m, (x + y) / 2 = m := ⟨_, rfl⟩
      have HM : Hid (((x : Int) + (y : Int)) / 2 = (m : Int)) := by unfold Hid; omega
      have hm1 : x ≤ m := by omega
      have hm2 : m < y := by omega
      clear hm
      go_wp2_with fail
      rw [HM.out]
      by_cases hgm : g ≤ m
      · have HD : Hid (decide (g ≤ m) = true) := decide_eq_true hgm
        refine (HC.out _ m (by omega) hbr).mono ?_
        rintro e w2 ⟨rfl, hb2⟩
        rw [HD.out]
        have HB := hbr.trans (hb2.mono hbr.size)
        clear hb2 hbr
        go_wp2
        go_roundw
        case rel => exact ⟨x, m, hx, hgm, by omega, rfl, rfl, HB⟩
        case measure => simp [intOf]; omega
      · have HD : Hid (decide (g ≤ m) = false) := decide_eq_false hgm
        refine (HC.out _ m (by omega) hbr).mono ?_
        rintro e w2 ⟨rfl, hb2⟩
        rw [HD.out]
        have HB := hbr.trans (hb2.mono hbr.size)
        clear hb2 hbr
        go_wp2
        go_roundw
        case rel => exact ⟨m + 1, y, by omega, hy, hyn, by go_num, rfl, HB⟩
        case measure => simp [intOf]; omega
    · have hxy : x = g := by omega
      have hni : ¬ ((x : Int) < (y : Int)) := by omega
      clear hlt
      go_wp2
      go_ret
      exact ⟨ret_int (by omega), hbr⟩
/-- the products that the search compares -/
theorem sin_prod (c : Nat) (m : Int) (h0 : 0 ≤ m) (h1 : m ≤ 2147483648) : (-2305843009213693952 ≤ sinZ (c : Int) * m ∧ sinZ (c : Int) * m ≤ 2305843009213693952) ∧ (-2305843009213693952 ≤ cosZ (c : Int) * m ∧ cosZ (c : Int) * m ≤ 2305843009213693952) := by
  have a := sinZ_bd (c : Int)
  have b := cosZ_bd (c : Int)
  exact ⟨mul_bd (A := 1073741824) (B := 2147483648) a.1 a.2 (by omega) h1, mul_bd (A := 1073741824) (B := 2147483648) b.1 b.2 (by omega) h1⟩
/-- a block of one number -/
def NumBox (w : World) (b : Nat) (x : Int) : Prop := w.cell? ⟨b, 0, none⟩ = some (.int .i64 x) ∧ b < w.heap.size
theorem NumBox.below {w w' : World} {b : Nat} {x : Int} (h : NumBox w b x) (hb : Below w.heap.size w w') : NumBox w' b x := ⟨(hb.cell (p := ⟨b, 0, none⟩) h.2).trans h.1, Nat.lt_of_lt_of_le h.2 hb.size⟩
set_option maxHeartbeats 1000000 in
theorem side_test (c bm bn : Nat) (m n : Int) (w : World) (hc : c ≤ 16200000) (hm : NumBox w bm m) (hn : NumBox w bn n) (m0 : 0 ≤ m) (m1 : m ≤ 2147483648) (n0 : 0 ≤ n) (n1 : n ≤ 2147483648) :
    Calls Tryz.prog 66 #[.int .i64 (c : Int), .pointer (some ⟨bm, 0, none⟩), .pointer (some ⟨bn, 0, none⟩)] w fun e w' => e = .returned (.bool (decide (sinZ (c : Int) * m ≤ cosZ (c : Int) * n))) ∧ Below w.heap.size w w' := by
  have c1 := hm.1
  have c2 := hn.1
  have p1 := (sin_prod c m m0 m1).1
  have p2 := (sin_prod c n n0 n1).2
  have HCC : Hid ((c : Int) ≤ 16200000) := by unfold Hid; omega
  clear hm hn m0 m1 n0 n1 hc
  go_enter Tryz.func66, Tryz.ntmps66
  go_wp2_with fail
  go_quiet (first
    | (go_at_call 63; exact Calls.quiet_of_same ((tSin_any (c : Int) _ (by have := HCC.out; omega) (by have := HCC.out; omega)).mono fun _ _ h => ⟨h.1, h.2.symm⟩))
    | (go_at_call 62; exact Calls.quiet_of_same ((tCos_any (c : Int) _ (by have := HCC.out; omega) (by have := HCC.out; omega)).mono fun _ _ h => ⟨h.1, h.2.symm⟩)))
  go_wp2
  go_ret
  exact ⟨rfl, below_drewN' (Below.refl _ _) _⟩
theorem gre_test {m n : Int} {g c : Nat} (h : IsGre m n g) (hc : c < 16200000) : decide (g ≤ c) = !(decide (sinZ ((c + 1 : Nat) : Int) * m ≤ cosZ ((c + 1 : Nat) : Int) * n)) := by
  have := h.2 (c + 1) (by omega) (by omega)
  by_cases hg : g ≤ c
  · rw [decide_eq_true hg, decide_eq_false (by rw [this]; omega)]; rfl
  · rw [decide_eq_false hg, decide_eq_true (by rw [this]; omega)]; rfl
set_option maxHeartbeats 1000000 in
theorem not_test (c b bm bn : Nat) (m n : Int) (g : Nat) (w : World) (hg : IsGre m n g) (hc : c < 16200000) (hb : w.cell? ⟨b, 0, none⟩ = some (.func (.func 66) #[] #[.pointer (some ⟨bm, 0, none⟩), .pointer (some ⟨bn, 0, none⟩)])) (hm : NumBox w bm m) (hn : NumBox w bn n) (m0 : 0 ≤ m) (m1 : m ≤ 2147483648) (n0 : 0 ≤ n) (n1 : n ≤ 2147483648) :
    Calls Tryz.prog 87 #[.int .i64 (c : Int), .pointer (some ⟨b, 0, none⟩)] w fun e w' => e = .returned (.bool (decide (g ≤ c))) ∧ Below w.heap.size w w' := by
  have HG := Lib.hid (gre_test hg hc)
  have HS := Lib.hid (side_test (c + 1) bm bn m n w (by omega) hm hn m0 m1 n0 n1)
  have hci : (c : Int) < 16200000 := by omega
  have HCS : Hid ((c : Int) + 1 = ((c + 1 : Nat) : Int)) := by unfold Hid; omega
  rw [HG.out]
  clear hg hc hm hn m0 m1 n0 n1
  go_enter Tryz.func87, Tryz.ntmps87
  go_wp2_with fail
  rw [HCS.out]
  refine HS.out.mono ?_
  rintro e w2 ⟨rfl, hb2⟩
  obtain ⟨d, hd⟩ : ∃ d, decide (sinZ ((c + 1 : Nat) : Int) * m ≤ cosZ ((c + 1 : Nat) : Int) * n) = d := ⟨_, rfl⟩
  rw [hd]
  have HD := Lib.hid hd
  clear hd
  go_wp2
  go_ret
  exact ⟨ret_bool (by rw [HD.out]), hb2⟩
def FnBox (w : World) (b bm bn : Nat) : Prop := w.cell? ⟨b, 0, none⟩ = some (.func (.func 66) #[] #[.pointer (some ⟨bm, 0, none⟩), .pointer (some ⟨bn, 0, none⟩)]) ∧ b < w.heap.size
theorem FnBox.below {w w' : World} {b bm bn : Nat} (h : FnBox w b bm bn) (hb : Below w.heap.size w w') : FnBox w' b bm bn := ⟨(hb.cell (p := ⟨b, 0, none⟩) h.2).trans h.1, Nat.lt_of_lt_of_le h.2 hb.size⟩
theorem fnBox_new (w : World) (bm bn : Nat) (T : TypeId) : FnBox (w.alloc (.cells #[.func (.func 66) #[] #[.pointer (some ⟨bm, 0, none⟩), .pointer (some ⟨bn, 0, none⟩)]] T)) w.heap.size bm bn :=
  ⟨by rw [World.cell?_alloc_at _ _ _ _ (by simp)]; rfl, by simp⟩
theorem numBox_new (w : World) (x : Int) (T : TypeId) : NumBox (w.alloc (.cells #[.int .i64 x] T)) w.heap.size x :=
  ⟨by rw [World.cell?_alloc_at _ _ _ _ (by simp)]; rfl, by simp⟩
set_option maxHeartbeats 1000000 in
theorem greatest_any (bm bn : Nat) (m n : Int) (g : Nat) (w : World) (hg : IsGre m n g) (hm : NumBox w bm m) (hn : NumBox w bn n) (m0 : 0 ≤ m) (m1 : m ≤ 2147483648) (n0 : 0 ≤ n) (n1 : n ≤ 2147483648) :
    Calls Tryz.prog 65 #[.int .i64 16200000, .func (.func 66) #[] #[.pointer (some ⟨bm, 0, none⟩), .pointer (some ⟨bn, 0, none⟩)]] w fun e w' => e = .returned (.int .i64 (g : Int)) ∧ Below w.heap.size w w' := by
  have K1 : Hid (Below w.heap.size w (w.alloc (.cells #[.func (.func 66) #[] #[.pointer (some ⟨bm, 0, none⟩), .pointer (some ⟨bn, 0, none⟩)]] 130))) := (Below.refl _ _).alloc (Nat.le_refl _) _
  have B1 := Lib.hid (fnBox_new w bm bn 130)
  have M1 := Lib.hid (hm.below K1.out)
  have N1 := Lib.hid (hn.below K1.out)
  have HG := Lib.hid hg
  clear hm hn hg
  go_enter Tryz.func65, Tryz.ntmps65
  go_wp2_with fail
  refine (search_any 16200000 g w.heap.size _ (by omega) HG.out.1 (fun W h hh hb => not_test h _ bm bn m n g W HG.out hh (B1.out.below hb).1 (M1.out.below hb) (N1.out.below hb) m0 m1 n0 n1)).mono ?_
  rintro e w2 ⟨rfl, hb2⟩
  have HB := Lib.hid (Below.then_ K1.out hb2)
  clear hb2
  go_wp2
  go_ret
  exact ⟨rfl, HB.out⟩
theorem atZ_abs (y x a : Int) (ha : a = (x.natAbs : Int)) : atZ y x = (if x < 0 then 64800000 - (if a < y then 32400000 - (gre y a : Int) else (gre a y : Int)) else (if a < y then 32400000 - (gre y a : Int) else (gre a y : Int))) := by
  unfold atZ
  by_cases h : x < 0
  · rw [if_pos h, if_pos h, show a = -x by omega]
  · rw [if_neg h, if_neg h, show a = x by omega]
/-- the ways of an angle: which side is greater, on which side it lies -/
theorem atZ_ways (y x : Int) (hy : 0 ≤ y) (hnz : ¬ (x = 0 ∧ y = 0)) : ∃ (a M N : Int) (g : Nat), a = (x.natAbs : Int) ∧ IsGre M N g ∧ 0 ≤ N ∧ N ≤ M ∧
    ((a < y ∧ M = y ∧ N = a ∧ ((x < 0 ∧ (x == 0) = false ∧ Hid (atZ y x = 64800000 - (32400000 - (g : Int)))) ∨ (0 < x ∧ (x == 0) = false ∧ Hid (atZ y x = 32400000 - (g : Int))) ∨ (x = 0 ∧ (y == 0) = false ∧ Hid (atZ y x = 32400000 - (g : Int))))) ∨
     (y ≤ a ∧ M = a ∧ N = y ∧ (x == 0) = false ∧ ((x < 0 ∧ Hid (atZ y x = 64800000 - (g : Int))) ∨ (0 < x ∧ Hid (atZ y x = (g : Int)))))) := by
  have ha := atZ_abs y x _ rfl
  by_cases h : (x.natAbs : Int) < y
  · refine ⟨_, y, (x.natAbs : Int), gre y (x.natAbs : Int), rfl, gre_spec (by omega) (by omega), by omega, by omega, .inl ⟨h, rfl, rfl, ?_⟩⟩
    rw [if_pos h] at ha
    by_cases hx : x < 0
    · rw [if_pos hx] at ha
      exact .inl ⟨hx, beq_eq_false_iff_ne.2 (by omega), ha⟩
    · rw [if_neg hx] at ha
      by_cases hx0 : x = 0
      · exact .inr (.inr ⟨hx0, beq_eq_false_iff_ne.2 (by omega), ha⟩)
      · exact .inr (.inl ⟨by omega, beq_eq_false_iff_ne.2 hx0, ha⟩)
  · refine ⟨_, (x.natAbs : Int), y, gre (x.natAbs : Int) y, rfl, gre_spec (by omega) (by omega), by omega, by omega, .inr ⟨by omega, rfl, rfl, beq_eq_false_iff_ne.2 (by omega), ?_⟩⟩
    rw [if_neg h] at ha
    by_cases hx : x < 0
    · rw [if_pos hx] at ha
      exact .inl ⟨hx, ha⟩
    · rw [if_neg hx] at ha
      exact .inr ⟨by omega, ha⟩
def AtPost (r : Int) (w : World) (e : Ending) (w' : World) : Prop := e = .returned (.tuple #[.int .i64 r, .int .i64 0]) ∧ Below w.heap.size w w'
theorem AtPost.mk {r s : Int} {w w' : World} (h : r = s) (hb : Below w.heap.size w w') : AtPost r w (.returned (.tuple #[.int .i64 s, .int .i64 0])) w' := by subst h; exact ⟨rfl, hb⟩
set_option maxRecDepth 100000 in
set_option maxHeartbeats 2000000 in
theorem atan_any (y x : Int) (w : World) (hy0 : 0 ≤ y) (hy : y ≤ 2147483647) (hx1 : -2147483647 ≤ x) (hx2 : x ≤ 2147483647) (hnz : ¬ (x = 0 ∧ y = 0)) :
    Calls Tryz.prog 44 #[.int .i64 y, .int .i64 x] w (AtPost (atZ y x) w) := by
  obtain ⟨a, M, N, g, ha, hg, hN0, hNM, hw⟩ := atZ_ways y x hy0 hnz
  have HG := Lib.hid hg
  have hgb : (g : Int) ≤ 16200000 := by have := hg.1; omega
  have HA : Hid ((x.natAbs : Int) = a) := ha.symm
  have HYA : Hid ((y.natAbs : Int) = y) := by unfold Hid; omega
  have ha0 : 0 ≤ a := by omega
  have ham : a ≤ 2147483647 := by omega
  have HB := Lib.hid (show -2147483647 ≤ x ∧ x ≤ 2147483647 from ⟨hx1, hx2⟩)
  clear ha hg hnz
  rcases hw with ⟨h1, rfl, rfl, ⟨h2, h3, hr⟩ | ⟨h2, h3, hr⟩ | ⟨rfl, h3, hr⟩⟩ | ⟨h1, rfl, rfl, h3, ⟨h2, hr⟩ | ⟨h2, hr⟩⟩
  case inl.inl =>
    have K1 : Hid (Below w.heap.size w ((w.alloc (.cells #[.int .i64 M] 2)).alloc (.cells #[.int .i64 N] 2))) := ((Below.refl _ _).alloc (Nat.le_refl _) _).alloc (by simp) _
    have M1 : Hid (NumBox ((w.alloc (.cells #[.int .i64 M] 2)).alloc (.cells #[.int .i64 N] 2)) w.heap.size M) := (numBox_new w M 2).below ((Below.refl _ _).alloc (Nat.le_refl _) _)
    have N1 : Hid (NumBox ((w.alloc (.cells #[.int .i64 M] 2)).alloc (.cells #[.int .i64 N] 2)) (w.heap.size + 1) N) := by
      have := numBox_new (w.alloc (.cells #[.int .i64 M] 2)) N 2
      rw [World.size_alloc] at this
      exact this
    go_enter Tryz.func44, Tryz.ntmps44
    go_wp2_with fail
    refine (tout_any _ _ (by omega) (by omega)).mono ?_
    rintro e w' ⟨rfl, rfl⟩
    go_wp2_with fail
    refine (tout_any _ _ HB.out.1 HB.out.2).mono ?_
    rintro e w' ⟨rfl, rfl⟩
    go_wp2_with fail
    refine (abs_any _ _ (by omega) (by omega)).mono ?_
    rintro e w' ⟨rfl, rfl⟩
    rw [HA.out]
    go_wp2_with fail
    refine (abs_any _ _ (by omega) (by omega)).mono ?_
    rintro e w' ⟨rfl, rfl⟩
    rw [HYA.out]
    have hm1 : max M N = M := by omega
    have hm3 : min M N = N := by omega
    have hm2 : max N M = M := by omega
    have hm4 : min N M = N := by omega
    go_wp2_with fail
    clear hm1 hm3 hm2 hm4
    refine (greatest_any _ _ M N g _ HG.out M1.out N1.out (by omega) (by omega) (by omega) (by omega)).mono ?_
    rintro e w2 ⟨rfl, hb2⟩
    have HB2 := Lib.hid (Below.then_ K1.out hb2)
    clear hb2 HG M1 N1 K1
    go_wp2
    go_ret2
    exact AtPost.mk hr.out HB2.out
  case inl.inr.inl =>
    have K1 : Hid (Below w.heap.size w ((w.alloc (.cells #[.int .i64 M] 2)).alloc (.cells #[.int .i64 N] 2))) := ((Below.refl _ _).alloc (Nat.le_refl _) _).alloc (by simp) _
    have M1 : Hid (NumBox ((w.alloc (.cells #[.int .i64 M] 2)).alloc (.cells #[.int .i64 N] 2)) w.heap.size M) := (numBox_new w M 2).below ((Below.refl _ _).alloc (Nat.le_refl _) _)
    have N1 : Hid (NumBox ((w.alloc (.cells #[.int .i64 M] 2)).alloc (.cells #[.int .i64 N] 2)) (w.heap.size + 1) N) := by
      have := numBox_new (w.alloc (.cells #[.int .i64 M] 2)) N 2
      rw [World.size_alloc] at this
      exact this
    go_enter Tryz.func44, Tryz.ntmps44
    go_wp2_with fail
    refine (tout_any _ _ (by omega) (by omega)).mono ?_
    rintro e w' ⟨rfl, rfl⟩
    go_wp2_with fail
    refine (tout_any _ _ HB.out.1 HB.out.2).mono ?_
    rintro e w' ⟨rfl, rfl⟩
    go_wp2_with fail
    refine (abs_any _ _ (by omega) (by omega)).mono ?_
    rintro e w' ⟨rfl, rfl⟩
    rw [HA.out]
    go_wp2_with fail
    refine (abs_any _ _ (by omega) (by omega)).mono ?_
    rintro e w' ⟨rfl, rfl⟩
    rw [HYA.out]
    have hm1 : max M N = M := by omega
    have hm3 : min M N = N := by omega
    have hm2 : max N M = M := by omega
    have hm4 : min N M = N := by omega
    go_wp2_with fail
    clear hm1 hm3 hm2 hm4
    refine (greatest_any _ _ M N g _ HG.out M1.out N1.out (by omega) (by omega) (by omega) (by omega)).mono ?_
    rintro e w2 ⟨rfl, hb2⟩
    have HB2 := Lib.hid (Below.then_ K1.out hb2)
    clear hb2 HG M1 N1 K1
    go_wp2
    go_ret2
    exact AtPost.mk hr.out HB2.out
  case inl.inr.inr =>
    have K1 : Hid (Below w.heap.size w ((w.alloc (.cells #[.int .i64 M] 2)).alloc (.cells #[.int .i64 N] 2))) := ((Below.refl _ _).alloc (Nat.le_refl _) _).alloc (by simp) _
    have M1 : Hid (NumBox ((w.alloc (.cells #[.int .i64 M] 2)).alloc (.cells #[.int .i64 N] 2)) w.heap.size M) := (numBox_new w M 2).below ((Below.refl _ _).alloc (Nat.le_refl _) _)
    have N1 : Hid (NumBox ((w.alloc (.cells #[.int .i64 M] 2)).alloc (.cells #[.int .i64 N] 2)) (w.heap.size + 1) N) := by
      have := numBox_new (w.alloc (.cells #[.int .i64 M] 2)) N 2
      rw [World.size_alloc] at this
      exact this
    go_enter Tryz.func44, Tryz.ntmps44
    go_wp2_with fail
    refine (tout_any _ _ (by omega) (by omega)).mono ?_
    rintro e w' ⟨rfl, rfl⟩
    go_wp2_with fail
    refine (tout_any _ _ HB.out.1 HB.out.2).mono ?_
    rintro e w' ⟨rfl, rfl⟩
    go_wp2_with fail
    refine (abs_any _ _ (by omega) (by omega)).mono ?_
    rintro e w' ⟨rfl, rfl⟩
    rw [HA.out]
    go_wp2_with fail
    refine (abs_any _ _ (by omega) (by omega)).mono ?_
    rintro e w' ⟨rfl, rfl⟩
    rw [HYA.out]
    have hm1 : max M N = M := by omega
    have hm3 : min M N = N := by omega
    have hm2 : max N M = M := by omega
    have hm4 : min N M = N := by omega
    go_wp2_with fail
    clear hm1 hm3 hm2 hm4
    refine (greatest_any _ _ M N g _ HG.out M1.out N1.out (by omega) (by omega) (by omega) (by omega)).mono ?_
    rintro e w2 ⟨rfl, hb2⟩
    have HB2 := Lib.hid (Below.then_ K1.out hb2)
    clear hb2 HG M1 N1 K1
    go_wp2
    go_ret2
    exact AtPost.mk hr.out HB2.out
  case inr.inl =>
    rcases Int.lt_or_eq_of_le h1 with h4 | h4
    · skip
      have K1 : Hid (Below w.heap.size w ((w.alloc (.cells #[.int .i64 M] 2)).alloc (.cells #[.int .i64 N] 2))) := ((Below.refl _ _).alloc (Nat.le_refl _) _).alloc (by simp) _
      have M1 : Hid (NumBox ((w.alloc (.cells #[.int .i64 M] 2)).alloc (.cells #[.int .i64 N] 2)) w.heap.size M) := (numBox_new w M 2).below ((Below.refl _ _).alloc (Nat.le_refl _) _)
      have N1 : Hid (NumBox ((w.alloc (.cells #[.int .i64 M] 2)).alloc (.cells #[.int .i64 N] 2)) (w.heap.size + 1) N) := by
        have := numBox_new (w.alloc (.cells #[.int .i64 M] 2)) N 2
        rw [World.size_alloc] at this
        exact this
      go_enter Tryz.func44, Tryz.ntmps44
      go_wp2_with fail
      refine (tout_any _ _ (by omega) (by omega)).mono ?_
      rintro e w' ⟨rfl, rfl⟩
      go_wp2_with fail
      refine (tout_any _ _ HB.out.1 HB.out.2).mono ?_
      rintro e w' ⟨rfl, rfl⟩
      go_wp2_with fail
      refine (abs_any _ _ (by omega) (by omega)).mono ?_
      rintro e w' ⟨rfl, rfl⟩
      rw [HA.out]
      go_wp2_with fail
      refine (abs_any _ _ (by omega) (by omega)).mono ?_
      rintro e w' ⟨rfl, rfl⟩
      rw [HYA.out]
      have hm1 : max M N = M := by omega
      have hm3 : min M N = N := by omega
      have hm2 : max N M = M := by omega
      have hm4 : min N M = N := by omega
      go_wp2_with fail
      clear hm1 hm3 hm2 hm4
      refine (greatest_any _ _ M N g _ HG.out M1.out N1.out (by omega) (by omega) (by omega) (by omega)).mono ?_
      rintro e w2 ⟨rfl, hb2⟩
      have HB2 := Lib.hid (Below.then_ K1.out hb2)
      clear hb2 HG M1 N1 K1
      go_wp2
      go_ret2
      exact AtPost.mk hr.out HB2.out
    · subst h4
      have K1 : Hid (Below w.heap.size w ((w.alloc (.cells #[.int .i64 N] 2)).alloc (.cells #[.int .i64 N] 2))) := ((Below.refl _ _).alloc (Nat.le_refl _) _).alloc (by simp) _
      have M1 : Hid (NumBox ((w.alloc (.cells #[.int .i64 N] 2)).alloc (.cells #[.int .i64 N] 2)) w.heap.size N) := (numBox_new w N 2).below ((Below.refl _ _).alloc (Nat.le_refl _) _)
      have N1 : Hid (NumBox ((w.alloc (.cells #[.int .i64 N] 2)).alloc (.cells #[.int .i64 N] 2)) (w.heap.size + 1) N) := by
        have := numBox_new (w.alloc (.cells #[.int .i64 N] 2)) N 2
        rw [World.size_alloc] at this
        exact this
      go_enter Tryz.func44, Tryz.ntmps44
      go_wp2_with fail
      refine (tout_any _ _ (by omega) (by omega)).mono ?_
      rintro e w' ⟨rfl, rfl⟩
      go_wp2_with fail
      refine (tout_any _ _ HB.out.1 HB.out.2).mono ?_
      rintro e w' ⟨rfl, rfl⟩
      go_wp2_with fail
      refine (abs_any _ _ (by omega) (by omega)).mono ?_
      rintro e w' ⟨rfl, rfl⟩
      rw [HA.out]
      go_wp2_with fail
      refine (abs_any _ _ (by omega) (by omega)).mono ?_
      rintro e w' ⟨rfl, rfl⟩
      rw [HYA.out]
      have hm1 : max N N = N := by omega
      have hm3 : min N N = N := by omega
      go_wp2_with fail
      clear hm1 hm3
      refine (greatest_any _ _ N N g _ HG.out M1.out N1.out (by omega) (by omega) (by omega) (by omega)).mono ?_
      rintro e w2 ⟨rfl, hb2⟩
      have HB2 := Lib.hid (Below.then_ K1.out hb2)
      clear hb2 HG M1 N1 K1
      go_wp2
      go_ret2
      exact AtPost.mk hr.out HB2.out
  case inr.inr =>
    rcases Int.lt_or_eq_of_le h1 with h4 | h4
    · skip
      have K1 : Hid (Below w.heap.size w ((w.alloc (.cells #[.int .i64 M] 2)).alloc (.cells #[.int .i64 N] 2))) := ((Below.refl _ _).alloc (Nat.le_refl _) _).alloc (by simp) _
      have M1 : Hid (NumBox ((w.alloc (.cells #[.int .i64 M] 2)).alloc (.cells #[.int .i64 N] 2)) w.heap.size M) := (numBox_new w M 2).below ((Below.refl _ _).alloc (Nat.le_refl _) _)
      have N1 : Hid (NumBox ((w.alloc (.cells #[.int .i64 M] 2)).alloc (.cells #[.int .i64 N] 2)) (w.heap.size + 1) N) := by
        have := numBox_new (w.alloc (.cells #[.int .i64 M] 2)) N 2
        rw [World.size_alloc] at this
        exact this
      go_enter Tryz.func44, Tryz.ntmps44
      go_wp2_with fail
      refine (tout_any _ _ (by omega) (by omega)).mono ?_
      rintro e w' ⟨rfl, rfl⟩
      go_wp2_with fail
      refine (tout_any _ _ HB.out.1 HB.out.2).mono ?_
      rintro e w' ⟨rfl, rfl⟩
      go_wp2_with fail
      refine (abs_any _ _ (by omega) (by omega)).mono ?_
      rintro e w' ⟨rfl, rfl⟩
      rw [HA.out]
      go_wp2_with fail
      refine (abs_any _ _ (by omega) (by omega)).mono ?_
      rintro e w' ⟨rfl, rfl⟩
      rw [HYA.out]
      have hm1 : max M N = M := by omega
      have hm3 : min M N = N := by omega
      have hm2 : max N M = M := by omega
      have hm4 : min N M = N := by omega
      go_wp2_with fail
      clear hm1 hm3 hm2 hm4
      refine (greatest_any _ _ M N g _ HG.out M1.out N1.out (by omega) (by omega) (by omega) (by omega)).mono ?_
      rintro e w2 ⟨rfl, hb2⟩
      have HB2 := Lib.hid (Below.then_ K1.out hb2)
      clear hb2 HG M1 N1 K1
      go_wp2
      go_ret2
      exact AtPost.mk hr.out HB2.out
    · subst h4
      have K1 : Hid (Below w.heap.size w ((w.alloc (.cells #[.int .i64 N] 2)).alloc (.cells #[.int .i64 N] 2))) := ((Below.refl _ _).alloc (Nat.le_refl _) _).alloc (by simp) _
      have M1 : Hid (NumBox ((w.alloc (.cells #[.int .i64 N] 2)).alloc (.cells #[.int .i64 N] 2)) w.heap.size N) := (numBox_new w N 2).below ((Below.refl _ _).alloc (Nat.le_refl _) _)
      have N1 : Hid (NumBox ((w.alloc (.cells #[.int .i64 N] 2)).alloc (.cells #[.int .i64 N] 2)) (w.heap.size + 1) N) := by
        have := numBox_new (w.alloc (.cells #[.int .i64 N] 2)) N 2
        rw [World.size_alloc] at this
        exact this
      go_enter Tryz.func44, Tryz.ntmps44
      go_wp2_with fail
      refine (tout_any _ _ (by omega) (by omega)).mono ?_
      rintro e w' ⟨rfl, rfl⟩
      go_wp2_with fail
      refine (tout_any _ _ HB.out.1 HB.out.2).mono ?_
      rintro e w' ⟨rfl, rfl⟩
      go_wp2_with fail
      refine (abs_any _ _ (by omega) (by omega)).mono ?_
      rintro e w' ⟨rfl, rfl⟩
      rw [HA.out]
      go_wp2_with fail
      refine (abs_any _ _ (by omega) (by omega)).mono ?_
      rintro e w' ⟨rfl, rfl⟩
      rw [HYA.out]
      have hm1 : max N N = N := by omega
      have hm3 : min N N = N := by omega
      go_wp2_with fail
      clear hm1 hm3
      refine (greatest_any _ _ N N g _ HG.out M1.out N1.out (by omega) (by omega) (by omega) (by omega)).mono ?_
      rintro e w2 ⟨rfl, hb2⟩
      have HB2 := Lib.hid (Below.then_ K1.out hb2)
      clear hb2 HG M1 N1 K1
      go_wp2
      go_ret2
      exact AtPost.mk hr.out HB2.out
end Go.Proofs.YtgnnblkpjankgaaGreatDoor
