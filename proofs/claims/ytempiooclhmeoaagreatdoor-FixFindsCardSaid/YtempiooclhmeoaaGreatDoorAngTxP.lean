/-
  Contracts: texts of latitudes, longitudes and positions, on both sides.
-/
import Derived.Test.YtempiooclhmeoaaGreatDoorAngTx
import Derived.Test.YtempiooclhmeoaaGreatDoorAngPP
namespace Go.Proofs.YtempiooclhmeoaaGreatDoor
open Go.RowKit
set_option linter.unusedVariables false
set_option linter.unusedSimpArgs false

theorem replicate_cells (c : UInt8) (w : World) (C : Nat) : (convert 109 9 (.slice (some ⟨w.heap.size, 0, none⟩) 1 1)).run Tryz.prog (w.alloc (.cells #[.int .u8 (c.toNat : Int)] 5)) = .ok (.string (sb [c])) (w.alloc (.cells #[.int .u8 (c.toNat : Int)] 5)) :=
  string_own (base := w.heap.size) (l := [c]) (n := 1) (World.ownsRow_lit w #[.int .u8 (c.toNat : Int)] 1 (Nat.le_refl _) (by unfold maxLen; omega) rfl) (by decide)
set_option maxRecDepth 100000 in
set_option maxHeartbeats 1000000 in
theorem rdigits_any (N c : Nat) (w : World) (hc : c ≤ 4) (hN : N < 1000000000000) :
    Calls Tryz.prog 178 #[.int .i64 (N : Int), .int .i64 (c : Int)] w (StrPost (fixD N c) w) := by
  have hci : (c : Int) ≤ 4 := by omega
  go_enter Tryz.func178, Tryz.ntmps178
  go_wp2
  go_loopw [0, 5, 7] (fun q s i wr => ∃ (k y : Nat) (t : ByteArray), k ≤ c ∧ i = .int .i64 k ∧ q = .int .i64 (y : Int) ∧ Hid (N / 10 ^ k = y) ∧ s = .string t ∧ Hid (bl t = fixD N k) ∧ Below w.heap.size w wr) (fun _ _ i _ => c - (intOf i).toNat)
  case atStart => exact ⟨0, N, ⟨#[]⟩, Nat.zero_le _, rfl, rfl, by unfold Hid; simp, rfl, rfl, Below.refl _ _⟩
  case round =>
    obtain ⟨k, y, t, hk, rfl, rfl, hy, rfl, ht, hbr⟩ := hrel
    have hyb : y < 1000000000000 := by rw [← hy.out]; exact Nat.lt_of_le_of_lt (Nat.div_le_self _ _) hN
    by_cases hlt : k < c
    · have hts : t.size ≤ 4 := by rw [← bl_len, ht.out, fixD_len]; omega
      have hyd : Hid (N / 10 ^ (k + 1) = y / 10) := by unfold Hid; rw [Nat.pow_succ, ← Nat.div_div_eq_div_mul, hy.out]
      have hcv := replicate_cells (UInt8.ofNat (48 + y % 10)) wr
      rw [digit_toNat (Nat.mod_lt _ (by decide))] at hcv
      have hcv2 := hcv 1
      rw [show ((48 + y % 10 : Nat) : Int) = 48 + (y : Int) % 10 by omega] at hcv2
      have HT : Hid (bl (sb [UInt8.ofNat (48 + y % 10)] ++ t) = fixD N (k + 1)) := by
        unfold Hid; rw [bl_append, bl_sb, fixD_front, ht.out, hy.out]; rfl
      have hsz : (sb [UInt8.ofNat (48 + y % 10)]).size ≤ 1 := Nat.le_refl _
      obtain ⟨d, hd⟩ : ∃ d, sb [UInt8.ofNat (48 + y % 10)] = d := ⟨_, rfl⟩
      rw [hd] at hcv2 HT hsz
      clear hcv hy hd
      go_wp2
      go_roundw
      case rel => exact ⟨k + 1, y / 10, _, hlt, by go_num, by go_num, hyd.out, rfl, HT.out, hbr.alloc hbr.size _⟩
      case measure => simp [intOf]; omega
    · obtain rfl : k = c := by omega
      go_wp2
      go_ret
      exact ⟨t, rfl, ht, hbr⟩

theorem StrPost.size {l : List UInt8} {t : ByteArray} (h : bl t = l) : t.size = l.length := by rw [← bl_len, h]
set_option maxRecDepth 100000 in
set_option maxHeartbeats 1000000 in
theorem sexa_any (N c : Nat) (w : World) (hc : c ≤ 3) (hN : N < 1000000000) :
    Calls Tryz.prog 141 #[.int .i64 (N : Int), .int .i64 (c : Int)] w (StrPost (sexa N c) w) := by
  have q1 := Lib.hid (show (N : Int) / 360000 = ((N / 360000 : Nat) : Int) by omega)
  have q2 := Lib.hid (show (N : Int) / 6000 % 60 = ((N / 6000 % 60 : Nat) : Int) by omega)
  have q3 := Lib.hid (show (N : Int) / 100 % 60 = ((N / 100 % 60 : Nat) : Int) by omega)
  have q4 := Lib.hid (show (N : Int) % 100 = ((N % 100 : Nat) : Int) by omega)
  have d1 : N / 360000 < 1000000000000 := by omega
  have d2 : N / 6000 % 60 < 1000000000000 := by omega
  have d3 : N / 100 % 60 < 1000000000000 := by omega
  have d4 : N % 100 < 1000000000000 := by omega
  go_enter Tryz.func141, Tryz.ntmps141
  go_wp2_with fail
  rw [q1.out]
  refine (rdigits_any _ c _ (by omega) d1).mono ?_
  rintro e w1 ⟨t1, rfl, ht1, hb1⟩
  have s1 : t1.size ≤ 3 := by rw [StrPost.size ht1.out, fixD_len]; exact hc
  go_wp2_with fail
  rw [q2.out]
  refine (rdigits_any _ 2 _ (by omega) d2).mono ?_
  rintro e w2 ⟨t2, rfl, ht2, hb2⟩
  have s2 : t2.size ≤ 3 := by rw [StrPost.size ht2.out, fixD_len]; omega
  have hb02 := Below.then_ hb1 hb2
  clear hb1 hb2
  go_wp2_with fail
  rw [q3.out]
  refine (rdigits_any _ 2 _ (by omega) d3).mono ?_
  rintro e w3 ⟨t3, rfl, ht3, hb3⟩
  have s3 : t3.size ≤ 3 := by rw [StrPost.size ht3.out, fixD_len]; omega
  have hb03 := Below.then_ hb02 hb3
  clear hb02 hb3
  go_wp2_with fail
  rw [q4.out]
  refine (rdigits_any _ 2 _ (by omega) d4).mono ?_
  rintro e w4 ⟨t4, rfl, ht4, hb4⟩
  have s4 : t4.size ≤ 3 := by rw [StrPost.size ht4.out, fixD_len]; omega
  have hb04 := Below.then_ hb03 hb4
  clear hb03 hb4
  go_wp2
  go_ret
  refine ⟨_, rfl, ?_, hb04⟩
  unfold Hid sexa
  simp only [bl_append, ht1.out, ht2.out, ht3.out, ht4.out, (sexa_ref N).1, (sexa_ref N).2, List.append_assoc]
/-- LatText, LonText -/
def AngTPost (l : List UInt8) (er : Int) (w : World) (e : Ending) (w' : World) : Prop := ∃ t : ByteArray, e = .returned (.tuple #[.string t, .int .i64 er]) ∧ Hid (bl t = l) ∧ Below w.heap.size w w'
set_option maxHeartbeats 1000000 in
theorem latText_any (a : Int) (w : World) : Calls Tryz.prog 96 #[.int .i64 a] w (AngTPost (latOut a) (if latB a then 0 else 2) w) := by
  cases h : latB a
  · have HO : Hid (latOut a = []) := by unfold Hid latOut; rw [h]; rfl
    have H := Lib.hid h
    clear h
    go_enter Tryz.func96, Tryz.ntmps96
    go_wp2_with fail
    refine (isLat_any a _).mono ?_
    rintro e w1 ⟨rfl, rfl⟩
    rw [H.out]
    go_wp2
    go_ret2
    exact ⟨_, rfl, HO.out.symm ▸ rfl, Below.refl _ _⟩
  · have hb := h
    unfold latB at hb
    rw [Bool.and_eq_true, decide_eq_true_iff, decide_eq_true_iff] at hb
    have hnb : a.natAbs < 1000000000 := by omega
    have HO : Hid (latOut a = sgnText a 78 83 2) := by unfold Hid latOut; rw [h]; rfl
    have H := Lib.hid h
    clear h hb
    go_enter Tryz.func96, Tryz.ntmps96
    go_wp2_with fail
    refine (isLat_any a _).mono ?_
    rintro e w1 ⟨rfl, rfl⟩
    rw [H.out]
    go_wp2_with fail
    refine (signed_any a 78 83 2 _ (by omega) (by omega) hnb).mono ?_
    rintro e w1 ⟨t, rfl, ht, hb⟩
    go_wp2
    go_ret2
    exact ⟨t, rfl, by unfold Hid; rw [HO.out]; exact ht.out, hb⟩
set_option maxHeartbeats 1000000 in
theorem lonText_any (a : Int) (w : World) : Calls Tryz.prog 97 #[.int .i64 a] w (AngTPost (lonOut a) (if lonB a then 0 else 2) w) := by
  cases h : lonB a
  · have HO : Hid (lonOut a = []) := by unfold Hid lonOut; rw [h]; rfl
    have H := Lib.hid h
    clear h
    go_enter Tryz.func97, Tryz.ntmps97
    go_wp2_with fail
    refine (isLon_any a _).mono ?_
    rintro e w1 ⟨rfl, rfl⟩
    rw [H.out]
    go_wp2
    go_ret2
    exact ⟨_, rfl, HO.out.symm ▸ rfl, Below.refl _ _⟩
  · have hb := h
    unfold lonB at hb
    rw [Bool.and_eq_true, decide_eq_true_iff, decide_eq_true_iff] at hb
    have hnb : a.natAbs < 1000000000 := by omega
    have HO : Hid (lonOut a = sgnText a 69 87 3) := by unfold Hid lonOut; rw [h]; rfl
    have H := Lib.hid h
    clear h hb
    go_enter Tryz.func97, Tryz.ntmps97
    go_wp2_with fail
    refine (isLon_any a _).mono ?_
    rintro e w1 ⟨rfl, rfl⟩
    rw [H.out]
    go_wp2_with fail
    refine (signed_any a 69 87 3 _ (by omega) (by omega) hnb).mono ?_
    rintro e w1 ⟨t, rfl, ht, hb⟩
    go_wp2
    go_ret2
    exact ⟨t, rfl, by unfold Hid; rw [HO.out]; exact ht.out, hb⟩
set_option maxHeartbeats 1000000 in
theorem rlatText_any (a : Int) (w : World) : Calls Tryz.prog 102 #[.int .i64 a] w (AngTPost (latOut a) (if latB a then 0 else 2) w) := by
  cases h : latB a
  · have HO : Hid (latOut a = []) := by unfold Hid latOut; rw [h]; rfl
    have hb : ¬ (latB a = true) := by rw [h]; decide
    unfold latB at hb
    rw [Bool.and_eq_true, decide_eq_true_iff, decide_eq_true_iff] at hb
    have hw : a < -64800000 ∨ (-64800000 ≤ a ∧ a ≤ -64800000) ∨ (-64800000 < a ∧ a < -32400000) ∨ (-32400000 ≤ a ∧ 32400000 < a ∧ a ≤ 64800000) ∨ (-32400000 ≤ a ∧ 64800000 < a) := by omega
    clear h
    rcases hw with h1 | ⟨h1, h2⟩ | ⟨h1, h2⟩ | ⟨h1, h2, h3⟩ | ⟨h1, h2⟩
    all_goals
      first
        | (exfalso; omega)
        | (clear hb
           go_enter Tryz.func102, Tryz.ntmps102
           go_wp2
           go_ret2
           exact ⟨_, rfl, HO.out.symm ▸ rfl, Below.refl _ _⟩)
  · have hb := h
    unfold latB at hb
    rw [Bool.and_eq_true, decide_eq_true_iff, decide_eq_true_iff] at hb
    have HO : Hid (latOut a = sgnText a 78 83 2) := by unfold Hid latOut; rw [h]; rfl
    obtain ⟨hb1, hb2⟩ := hb
    have HB1 := hb1
    clear h
    by_cases h0 : a < 0
    · obtain ⟨N, hN⟩ : ∃ N : Nat, -a = (N : Int) := ⟨a.natAbs, by omega⟩
      have HT : Hid (sgnText a 78 83 2 = 83 :: sexa N 2) := by unfold Hid sgnText; rw [if_pos h0, hN, Int.toNat_natCast]
      have HNb : N < 1000000000 := by omega
      have hN' := Lib.hid hN
      clear hN
      go_enter Tryz.func102, Tryz.ntmps102
      go_wp2_with fail
      rw [hN'.out]
      refine (sexa_any N 2 _ (by omega) HNb).mono ?_
      rintro e w1 ⟨t, rfl, ht, hb⟩
      have hts : t.size ≤ 9 := by rw [StrPost.size ht.out, sexa_len]; omega
      go_wp2
      go_ret2
      refine ⟨_, rfl, ?_, hb⟩
      unfold Hid
      rw [HO.out, HT.out, bl_append, ht.out]; rfl
    · obtain ⟨N, rfl⟩ : ∃ N : Nat, a = (N : Int) := ⟨a.natAbs, by omega⟩
      have HT : Hid (sgnText (N : Int) 78 83 2 = 78 :: sexa N 2) := by unfold Hid sgnText; rw [if_neg h0, Int.toNat_natCast]
      have HNb : N < 1000000000 := by omega
      clear h0
      go_enter Tryz.func102, Tryz.ntmps102
      go_wp2_with fail
      refine (sexa_any N 2 _ (by omega) HNb).mono ?_
      rintro e w1 ⟨t, rfl, ht, hb⟩
      have hts : t.size ≤ 9 := by rw [StrPost.size ht.out, sexa_len]; omega
      go_wp2
      go_ret2
      refine ⟨_, rfl, ?_, hb⟩
      unfold Hid
      rw [HO.out, HT.out, bl_append, ht.out]; rfl
set_option maxHeartbeats 1000000 in
theorem rlonText_any (a : Int) (w : World) : Calls Tryz.prog 103 #[.int .i64 a] w (AngTPost (lonOut a) (if lonB a then 0 else 2) w) := by
  cases h : lonB a
  · have HO : Hid (lonOut a = []) := by unfold Hid lonOut; rw [h]; rfl
    have hb : ¬ (lonB a = true) := by rw [h]; decide
    unfold lonB at hb
    rw [Bool.and_eq_true, decide_eq_true_iff, decide_eq_true_iff] at hb
    have hw : a < -64800000 ∨ (-64800000 ≤ a ∧ a ≤ -64800000) ∨ (-64800000 < a ∧ a < -32400000) ∨ (-32400000 ≤ a ∧ 32400000 < a ∧ a ≤ 64800000) ∨ (-32400000 ≤ a ∧ 64800000 < a) := by omega
    clear h
    rcases hw with h1 | ⟨h1, h2⟩ | ⟨h1, h2⟩ | ⟨h1, h2, h3⟩ | ⟨h1, h2⟩
    all_goals
      first
        | (exfalso; omega)
        | (clear hb
           go_enter Tryz.func103, Tryz.ntmps103
           go_wp2
           go_ret2
           exact ⟨_, rfl, HO.out.symm ▸ rfl, Below.refl _ _⟩)
  · have hb := h
    unfold lonB at hb
    rw [Bool.and_eq_true, decide_eq_true_iff, decide_eq_true_iff] at hb
    have HO : Hid (lonOut a = sgnText a 69 87 3) := by unfold Hid lonOut; rw [h]; rfl
    obtain ⟨hb1, hb2⟩ := hb
    have HB1 := hb1
    clear h
    by_cases h0 : a < 0
    · obtain ⟨N, hN⟩ : ∃ N : Nat, -a = (N : Int) := ⟨a.natAbs, by omega⟩
      have HT : Hid (sgnText a 69 87 3 = 87 :: sexa N 3) := by unfold Hid sgnText; rw [if_pos h0, hN, Int.toNat_natCast]
      have HNb : N < 1000000000 := by omega
      have hN' := Lib.hid hN
      clear hN
      go_enter Tryz.func103, Tryz.ntmps103
      go_wp2_with fail
      rw [hN'.out]
      refine (sexa_any N 3 _ (by omega) HNb).mono ?_
      rintro e w1 ⟨t, rfl, ht, hb⟩
      have hts : t.size ≤ 9 := by rw [StrPost.size ht.out, sexa_len]; omega
      go_wp2
      go_ret2
      refine ⟨_, rfl, ?_, hb⟩
      unfold Hid
      rw [HO.out, HT.out, bl_append, ht.out]; rfl
    · obtain ⟨N, rfl⟩ : ∃ N : Nat, a = (N : Int) := ⟨a.natAbs, by omega⟩
      have HT : Hid (sgnText (N : Int) 69 87 3 = 69 :: sexa N 3) := by unfold Hid sgnText; rw [if_neg h0, Int.toNat_natCast]
      have HNb : N < 1000000000 := by omega
      clear h0
      go_enter Tryz.func103, Tryz.ntmps103
      go_wp2_with fail
      refine (sexa_any N 3 _ (by omega) HNb).mono ?_
      rintro e w1 ⟨t, rfl, ht, hb⟩
      have hts : t.size ≤ 9 := by rw [StrPost.size ht.out, sexa_len]; omega
      go_wp2
      go_ret2
      refine ⟨_, rfl, ?_, hb⟩
      unfold Hid
      rw [HO.out, HT.out, bl_append, ht.out]; rfl

set_option maxHeartbeats 1000000 in
theorem posText_any (a b : Int) (w : World) : Calls Tryz.prog 49 #[.agg #[.int .i64 a, .int .i64 b]] w (AngTPost (posOut a b) (posErr a b) w) := by
  have HOK : Hid (posB a b = true → posOut a b = latOut a ++ lonOut b ∧ posErr a b = 0) := by
    intro h; unfold posOut posErr; rw [if_pos h, if_pos h]; exact ⟨rfl, rfl⟩
  have HNO : Hid (posB a b = false → posOut a b = [] ∧ posErr a b = 2) := by
    intro h; unfold posOut posErr; rw [h]; exact ⟨rfl, rfl⟩
  have HFOK : Hid (posB a b = true → ∀ (t u : ByteArray) w', bl t = latOut a → bl u = lonOut b → Below w.heap.size w w' → AngTPost (posOut a b) (posErr a b) w (.returned (.tuple #[.string (t ++ u), .int .i64 0])) w') := by
    intro h t u w' ht hu hb; refine ⟨_, by rw [(HOK.out h).2], ?_, hb⟩; unfold Hid; rw [(HOK.out h).1, bl_append, ht, hu]
  have HFNO : Hid (posB a b = false → ∀ w', Below w.heap.size w w' → AngTPost (posOut a b) (posErr a b) w (.returned (.tuple #[.string ⟨#[]⟩, .int .i64 2])) w') := by
    intro h w' hb; refine ⟨_, by rw [(HNO.out h).2], ?_, hb⟩; unfold Hid; rw [(HNO.out h).1]; rfl
  have l1 : (latOut a).length ≤ 9 := by unfold latOut; split <;> first | (rw [sgnText_len]; omega) | simp
  have l2 : (lonOut b).length ≤ 10 := by unfold lonOut; split <;> first | (rw [sgnText_len]; omega) | simp
  cases h1 : latB a <;> cases h2 : lonB b
  all_goals
    have H1 := Lib.hid h1
    have H2 := Lib.hid h2
    clear h1 h2
    go_enter Tryz.func49, Tryz.ntmps49
    go_wp2_with fail
    refine (latText_any a _).mono ?_
    rintro e w1 ⟨t, rfl, ht, hb1⟩
    rw [H1.out]
    have c1 : w1.cell? ⟨w.heap.size, 1, none⟩ = some (.int .i64 b) := (hb1.cell (p := ⟨w.heap.size, 1, none⟩) (by simp)).trans (by simp [go_sem])
    have z1 : w.heap.size < w1.heap.size := by have := hb1.size; simp at this; omega
    have hts : t.size ≤ 9 := by rw [StrPost.size ht.out]; exact l1
    go_wp2_with fail
    refine (lonText_any b _).mono ?_
    rintro e w2 ⟨u, rfl, hu, hb2⟩
    rw [H2.out]
    have hus : u.size ≤ 10 := by rw [StrPost.size hu.out]; exact l2
    have HB := Lib.hid ((((Below.refl w.heap.size w).alloc (Nat.le_refl _) (.cells #[.int .i64 a, .int .i64 b] 24)).trans (hb1.mono (by simp))).trans (hb2.mono (by omega)))
    clear hb1 hb2 c1 z1
    go_wp2
    go_ret2
    first
      | exact HFOK.out (by unfold posB; rw [H1.out, H2.out]; rfl) _ _ _ ht.out hu.out HB.out
      | exact HFNO.out (by unfold posB; rw [H1.out, H2.out]; rfl) _ HB.out
set_option maxHeartbeats 1000000 in
theorem rposText_any (a b : Int) (w : World) : Calls Tryz.prog 54 #[.agg #[.int .i64 a, .int .i64 b]] w (AngTPost (posOut a b) (posErr a b) w) := by
  have HOK : Hid (posB a b = true → posOut a b = latOut a ++ lonOut b ∧ posErr a b = 0) := by
    intro h; unfold posOut posErr; rw [if_pos h, if_pos h]; exact ⟨rfl, rfl⟩
  have HNO : Hid (posB a b = false → posOut a b = [] ∧ posErr a b = 2) := by
    intro h; unfold posOut posErr; rw [h]; exact ⟨rfl, rfl⟩
  have HFOK : Hid (posB a b = true → ∀ (t u : ByteArray) w', bl t = latOut a → bl u = lonOut b → Below w.heap.size w w' → AngTPost (posOut a b) (posErr a b) w (.returned (.tuple #[.string (t ++ u), .int .i64 0])) w') := by
    intro h t u w' ht hu hb; refine ⟨_, by rw [(HOK.out h).2], ?_, hb⟩; unfold Hid; rw [(HOK.out h).1, bl_append, ht, hu]
  have HFNO : Hid (posB a b = false → ∀ w', Below w.heap.size w w' → AngTPost (posOut a b) (posErr a b) w (.returned (.tuple #[.string ⟨#[]⟩, .int .i64 2])) w') := by
    intro h w' hb; refine ⟨_, by rw [(HNO.out h).2], ?_, hb⟩; unfold Hid; rw [(HNO.out h).1]; rfl
  have l1 : (latOut a).length ≤ 9 := by unfold latOut; split <;> first | (rw [sgnText_len]; omega) | simp
  have l2 : (lonOut b).length ≤ 10 := by unfold lonOut; split <;> first | (rw [sgnText_len]; omega) | simp
  cases h1 : latB a <;> cases h2 : lonB b
  all_goals
    have H1 := Lib.hid h1
    have H2 := Lib.hid h2
    clear h1 h2
    go_enter Tryz.func54, Tryz.ntmps54
    go_wp2_with fail
    refine (rlatText_any a _).mono ?_
    rintro e w1 ⟨t, rfl, ht, hb1⟩
    rw [H1.out]
    have c1 : w1.cell? ⟨w.heap.size, 1, none⟩ = some (.int .i64 b) := (hb1.cell (p := ⟨w.heap.size, 1, none⟩) (by simp)).trans (by simp [go_sem])
    have z1 : w.heap.size < w1.heap.size := by have := hb1.size; simp at this; omega
    have hts : t.size ≤ 9 := by rw [StrPost.size ht.out]; exact l1
    go_wp2_with fail
    refine (rlonText_any b _).mono ?_
    rintro e w2 ⟨u, rfl, hu, hb2⟩
    rw [H2.out]
    have hus : u.size ≤ 10 := by rw [StrPost.size hu.out]; exact l2
    have HB := Lib.hid ((((Below.refl w.heap.size w).alloc (Nat.le_refl _) (.cells #[.int .i64 a, .int .i64 b] 24)).trans (hb1.mono (by simp))).trans (hb2.mono (by omega)))
    clear hb1 hb2 c1 z1
    go_wp2
    go_ret2
    first
      | exact HFOK.out (by unfold posB; rw [H1.out, H2.out]; rfl) _ _ _ ht.out hu.out HB.out
      | exact HFNO.out (by unfold posB; rw [H1.out, H2.out]; rfl) _ HB.out
end Go.Proofs.YtempiooclhmeoaaGreatDoor
