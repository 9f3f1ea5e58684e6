/-
  Contracts: the angle of degrees, minutes, seconds and hundredths, on both sides.
-/
import Derived.Test.YtlgajjlnbcbijaaGreatDoorAngNum
namespace Go.Proofs.YtlgajjlnbcbijaaGreatDoor
open Go.RowKit
set_option linter.unusedVariables false
set_option linter.unusedSimpArgs false

theorem number_yes (s : ByteArray) (n : Nat) (w : World) (hs : s.size ≤ 9) (hd : (bl s).all digC = true) (hn : numV (bl s) = n) : Calls Tryz.prog 298 #[.string s] w fun e w' => e = .returned (.tuple #[.int .i64 (n : Int), .bool true]) ∧ w = w' :=
  (number_any s w hs).mono fun e w' h => by unfold DigPost at h; rw [hd, hn] at h; exact h
theorem number_no (s : ByteArray) (w : World) (hs : s.size ≤ 9) (hd : (bl s).all digC = false) : Calls Tryz.prog 298 #[.string s] w fun e w' => e = .returned (.tuple #[.int .i64 0, .bool false]) ∧ w = w' :=
  (number_any s w hs).mono fun e w' h => by unfold DigPost at h; rw [hd] at h; exact h
theorem rvalue_yes (s : ByteArray) (n : Nat) (w : World) (hs : s.size ≤ 9) (hd : (bl s).all digC = true) (hn : numV (bl s) = n) : Calls Tryz.prog 313 #[.string s] w fun e w' => e = .returned (.tuple #[.int .i64 (n : Int), .bool true]) ∧ w = w' :=
  (rvalue_any s w hs).mono fun e w' h => by unfold DigPost at h; rw [hd, hn] at h; exact h
theorem rvalue_no (s : ByteArray) (w : World) (hs : s.size ≤ 9) (hd : (bl s).all digC = false) : Calls Tryz.prog 313 #[.string s] w fun e w' => e = .returned (.tuple #[.int .i64 0, .bool false]) ∧ w = w' :=
  (rvalue_any s w hs).mono fun e w' h => by unfold DigPost at h; rw [hd] at h; exact h
theorem all_of_take {l : List UInt8} (k : Nat) (h : l.all digC = true) : (l.take k).all digC = true := by
  rw [List.all_eq_true] at *; exact fun x hx => h x (List.mem_of_mem_take hx)
theorem all_of_drop {l : List UInt8} (k : Nat) (h : l.all digC = true) : (l.drop k).all digC = true := by
  rw [List.all_eq_true] at *; exact fun x hx => h x (List.mem_of_mem_drop hx)
theorem numV_small {l : List UInt8} {k : Nat} (h : l.all digC = true) (hl : l.length ≤ k) : numV l < 10 ^ k :=
  Nat.lt_of_lt_of_le (numV_lt l h) (Nat.pow_le_pow_right (by decide) hl)
def JoinPost (s : ByteArray) (c : Nat) (w : World) (e : Ending) (w' : World) : Prop := e = .returned (.tuple #[.int .i64 (if joinB (bl s) c then (joinV (bl s) c : Int) else 0), .bool (joinB (bl s) c)]) ∧ w = w'
set_option maxRecDepth 100000 in
set_option maxHeartbeats 2000000 in
theorem join_any (s : ByteArray) (c : Nat) (w : World) (hc : c ≤ 3) (hs : s.size ≤ maxLen) : Calls Tryz.prog 268 #[.string s, .int .i64 (c : Int)] w (JoinPost s c w) := by
  unfold maxLen at hs
  have HNO : Hid (joinB (bl s) c = false → JoinPost s c w (.returned (.tuple #[.int .i64 0, .bool false])) w) := by
    intro h; unfold JoinPost; rw [h]; exact ⟨rfl, rfl⟩
  have HYES : Hid (joinB (bl s) c = true → ∀ n : Int, (joinV (bl s) c : Int) = n → JoinPost s c w (.returned (.tuple #[.int .i64 n, .bool true])) w) := by
    intro h n hn; unfold JoinPost; rw [h, ← hn]; exact ⟨rfl, rfl⟩
  by_cases hl : s.size = c + 6
  · have HLE : Hid ((bl s).length = c + 6) := hl
    have hl1 : (s.size : Int) = (c : Int) + 6 := by omega
    have hz1 : s.size ≤ 9 := by omega
    have hz2 : c + 6 ≤ s.size := by omega
    have hne : ((s.size : Int) != (c : Int) + 6) = false := bne_eq_false_iff_eq.2 hl1
    have hc0 : (0 : Int) ≤ (c : Int) := by omega
    have hc3 : (c : Int) ≤ 3 := by omega
    have hz3 : (c : Int) + 6 ≤ (s.size : Int) := by omega
    clear hl hl1
    cases hd : (bl s).all digC with
    | false =>
      have HD := Lib.hid hd
      have HJ : Hid (joinB (bl s) c = false) := by unfold Hid joinB; rw [hd]; simp
      clear hd
      go_enter Tryz.func268, Tryz.ntmps268
      go_wp2_with fail
      refine (number_no s _ hz1 HD.out).mono ?_
      rintro e w' ⟨rfl, rfl⟩
      go_wp2
      go_ret2
      exact HNO.out HJ.out
    | true =>
      have HD := Lib.hid hd
      clear hd
      obtain ⟨n1, h1⟩ : ∃ n, numV ((bl s).take c) = n := ⟨_, rfl⟩
      obtain ⟨n2, h2⟩ : ∃ n, numV (((bl s).drop c).take 2) = n := ⟨_, rfl⟩
      obtain ⟨n3, h3⟩ : ∃ n, numV (((bl s).drop (c + 2)).take 2) = n := ⟨_, rfl⟩
      obtain ⟨n4, h4⟩ : ∃ n, numV ((bl s).drop (c + 4)) = n := ⟨_, rfl⟩
      have b1 : n1 < 1000 := by
        rw [← h1]; exact numV_small (k := 3) (all_of_take _ HD.out) (by rw [List.length_take]; omega)
      have b2 : n2 < 100 := by
        rw [← h2]; exact numV_small (k := 2) (all_of_take _ (all_of_drop _ HD.out)) (by rw [List.length_take]; omega)
      have b3 : n3 < 100 := by
        rw [← h3]; exact numV_small (k := 2) (all_of_take _ (all_of_drop _ HD.out)) (by rw [List.length_take]; omega)
      have b4 : n4 < 100 := by
        rw [← h4]; exact numV_small (k := 2) (all_of_drop _ HD.out) (by rw [List.length_drop, HLE.out]; omega)
      have HV : Hid ((joinV (bl s) c : Int) = (n1 : Int) * 360000 + (n2 : Int) * 6000 + (n3 : Int) * 100 + (n4 : Int)) := by
        unfold Hid joinV; rw [h1, h2, h3, h4]; omega
      have HB : Hid (joinB (bl s) c = (decide (n2 < 60) && decide (n3 < 60))) := by
        unfold Hid joinB; rw [HD.out, HLE.out, h2, h3]; simp
      have i1 : (n1 : Int) < 1000 := by omega
      have i2 : (n2 : Int) < 100 := by omega
      have i3 : (n3 : Int) < 100 := by omega
      have i4 : (n4 : Int) < 100 := by omega
      have H1 := Lib.hid h1
      have H2 := Lib.hid h2
      have H3 := Lib.hid h3
      have H4 := Lib.hid h4
      clear h1 h2 h3 h4
      go_enter Tryz.func268, Tryz.ntmps268
      go_wp2_with fail
      refine (number_yes s _ _ hz1 HD.out rfl).mono ?_
      rintro e w' ⟨rfl, rfl⟩
      go_wp2_with fail
      refine (number_yes _ n1 _ (by rw [ByteArray.size_extract]; omega) (by rw [bl_extract]; exact all_of_take _ (all_of_drop _ HD.out)) (by rw [bl_extract]; first | exact H1.out | (rw [List.drop_zero]; exact H1.out))).mono ?_
      rintro e w' ⟨rfl, rfl⟩
      go_wp2_with fail
      refine (number_yes _ n2 _ (by rw [ByteArray.size_extract]; omega) (by rw [bl_extract]; exact all_of_take _ (all_of_drop _ HD.out)) (by rw [bl_extract, show c + 2 - c = 2 by omega]; exact H2.out)).mono ?_
      rintro e w' ⟨rfl, rfl⟩
      go_wp2_with fail
      refine (number_yes _ n3 _ (by rw [ByteArray.size_extract]; omega) (by rw [bl_extract]; exact all_of_take _ (all_of_drop _ HD.out)) (by rw [bl_extract, show c + 4 - (c + 2) = 2 by omega]; exact H3.out)).mono ?_
      rintro e w' ⟨rfl, rfl⟩
      go_wp2_with fail
      refine (number_yes _ n4 _ (by rw [ByteArray.size_extract]; omega) (by rw [bl_extract]; exact all_of_take _ (all_of_drop _ HD.out)) (by rw [bl_extract, List.take_of_length_le (by rw [List.length_drop, bl_len]; omega)]; exact H4.out)).mono ?_
      rintro e w' ⟨rfl, rfl⟩
      rcases Nat.lt_or_ge n2 60 with k2 | k2
      · have k2' : (n2 : Int) < 60 := by omega
        rcases Nat.lt_or_ge n3 60 with k3 | k3
        · have k3' : (n3 : Int) < 60 := by omega
          have HJ : Hid (joinB (bl s) c = true) := by unfold Hid; rw [HB.out, decide_eq_true k2, decide_eq_true k3]; rfl
          go_wp2
          go_ret2
          exact HYES.out HJ.out _ HV.out
        · have k3' : (60 : Int) ≤ (n3 : Int) := by omega
          have HJ : Hid (joinB (bl s) c = false) := by unfold Hid; rw [HB.out, decide_eq_false (p := n3 < 60) (by omega), Bool.and_false]
          go_wp2
          go_ret2
          exact HNO.out HJ.out
      · have k2' : (60 : Int) ≤ (n2 : Int) := by omega
        have HJ : Hid (joinB (bl s) c = false) := by unfold Hid; rw [HB.out, decide_eq_false (p := n2 < 60) (by omega), Bool.false_and]
        go_wp2
        go_ret2
        exact HNO.out HJ.out
  · have HJ : Hid (joinB (bl s) c = false) := by
      unfold Hid joinB; rw [decide_eq_false (p := (bl s).length = c + 6) (by rw [bl_len]; exact hl)]; rfl
    have hne : ((s.size : Int) != (c : Int) + 6) = true := bne_iff_ne.2 (by omega)
    have hc0 : (0 : Int) ≤ (c : Int) := by omega
    have hc3 : (c : Int) ≤ 3 := by omega
    clear hl
    go_enter Tryz.func268, Tryz.ntmps268
    go_wp2
    go_ret2
    exact HNO.out HJ.out
theorem and4 : ∀ a b c d : Bool, ((a && b) && c && d) = false → a = false ∨ b = false ∨ c = false ∨ d = false := by decide
theorem parts4 (l : List UInt8) (c : Nat) : l.all digC = (((l.take c).all digC && ((l.drop c).take 2).all digC) && ((l.drop (c + 2)).take 2).all digC && (l.drop (c + 4)).all digC) := by
  have e1 : l = l.take c ++ l.drop c := (List.take_append_drop c l).symm
  have e2 : l.drop c = (l.drop c).take 2 ++ l.drop (c + 2) := by
    have h := (List.take_append_drop 2 (l.drop c)).symm
    rw [List.drop_drop] at h
    exact h
  have e3 : l.drop (c + 2) = (l.drop (c + 2)).take 2 ++ l.drop (c + 4) := by
    have h := (List.take_append_drop 2 (l.drop (c + 2))).symm
    rw [List.drop_drop] at h
    exact h
  have a1 : l.all digC = ((l.take c).all digC && (l.drop c).all digC) := by rw [← List.all_append, List.take_append_drop]
  have a2 : (l.drop c).all digC = (((l.drop c).take 2).all digC && (l.drop (c + 2)).all digC) := by rw [← List.all_append, ← e2]
  have a3 : (l.drop (c + 2)).all digC = (((l.drop (c + 2)).take 2).all digC && (l.drop (c + 4)).all digC) := by rw [← List.all_append, ← e3]
  rw [a1, a2, a3, Bool.and_assoc, Bool.and_assoc]
set_option maxRecDepth 100000 in
set_option maxHeartbeats 2000000 in
theorem rjoin_any (s : ByteArray) (c : Nat) (w : World) (hc : c ≤ 3) (hs : s.size ≤ maxLen) : Calls Tryz.prog 292 #[.string s, .int .i64 (c : Int)] w (JoinPost s c w) := by
  unfold maxLen at hs
  have HNO : Hid (joinB (bl s) c = false → JoinPost s c w (.returned (.tuple #[.int .i64 0, .bool false])) w) := by
    intro h; unfold JoinPost; rw [h]; exact ⟨rfl, rfl⟩
  have HYES : Hid (joinB (bl s) c = true → ∀ n : Int, (joinV (bl s) c : Int) = n → JoinPost s c w (.returned (.tuple #[.int .i64 n, .bool true])) w) := by
    intro h n hn; unfold JoinPost; rw [h, ← hn]; exact ⟨rfl, rfl⟩
  by_cases hl : s.size = c + 6
  · have HLE : Hid ((bl s).length = c + 6) := hl
    have hl1 : (s.size : Int) = (c : Int) + 6 := by omega
    have hz1 : s.size ≤ 9 := by omega
    have hz2 : c + 6 ≤ s.size := by omega
    have hne : ((s.size : Int) != (c : Int) + 6) = false := bne_eq_false_iff_eq.2 hl1
    have hc0 : (0 : Int) ≤ (c : Int) := by omega
    have hc3 : (c : Int) ≤ 3 := by omega
    have hz3 : (c : Int) + 6 ≤ (s.size : Int) := by omega
    clear hl hl1
    cases hd : (bl s).all digC with
    | false =>
      have HJ : Hid (joinB (bl s) c = false) := by unfold Hid joinB; rw [hd]; simp
      have HP : Hid (((bl s).take c).all digC = false ∨ (((bl s).drop c).take 2).all digC = false ∨ (((bl s).drop (c + 2)).take 2).all digC = false ∨ ((bl s).drop (c + 4)).all digC = false) := by
        unfold Hid
        rw [parts4 (bl s) c] at hd
        exact and4 _ _ _ _ hd
      clear hd
      have bt : ∀ b : Bool, b = true ∨ b = false := by decide
      have HA : ∀ (t : ByteArray) (w : World), t.size ≤ 9 → Calls Tryz.prog 313 #[.string t] w fun e w' => (∃ x, e = .returned (.tuple #[.int .i64 x, .bool ((bl t).all digC)])) ∧ w = w' := fun t w ht => (rvalue_any t w ht).mono fun e w' h => ⟨⟨_, h.1⟩, h.2⟩
      have HAL := Lib.hid HA
      clear HA bt
      go_enter Tryz.func292, Tryz.ntmps292
      go_wp2_with fail
      refine (HAL.out _ _ (by rw [ByteArray.size_extract]; omega)).mono ?_
      rintro e w' ⟨⟨x1, rfl⟩, rfl⟩
      rw [show (bl (s.extract 0 c)).all digC = ((bl s).take c).all digC by rw [bl_extract, List.drop_zero]; rfl]
      obtain ⟨b1, hb1⟩ : ∃ b, ((bl s).take c).all digC = b := ⟨_, rfl⟩
      rw [hb1] at HP ⊢
      clear hb1
      go_wp2_with fail
      refine (HAL.out _ _ (by rw [ByteArray.size_extract]; omega)).mono ?_
      rintro e w' ⟨⟨x2, rfl⟩, rfl⟩
      rw [show (bl (s.extract c (c + 2))).all digC = (((bl s).drop c).take 2).all digC by rw [bl_extract, show c + 2 - c = 2 by omega]]
      obtain ⟨b2, hb2⟩ : ∃ b, (((bl s).drop c).take 2).all digC = b := ⟨_, rfl⟩
      rw [hb2] at HP ⊢
      clear hb2
      go_wp2_with fail
      refine (HAL.out _ _ (by rw [ByteArray.size_extract]; omega)).mono ?_
      rintro e w' ⟨⟨x3, rfl⟩, rfl⟩
      rw [show (bl (s.extract (c + 2) (c + 4))).all digC = (((bl s).drop (c + 2)).take 2).all digC by rw [bl_extract, show c + 4 - (c + 2) = 2 by omega]]
      obtain ⟨b3, hb3⟩ : ∃ b, (((bl s).drop (c + 2)).take 2).all digC = b := ⟨_, rfl⟩
      rw [hb3] at HP ⊢
      clear hb3
      go_wp2_with fail
      refine (HAL.out _ _ (by rw [ByteArray.size_extract]; omega)).mono ?_
      rintro e w' ⟨⟨x4, rfl⟩, rfl⟩
      rw [show (bl (s.extract (c + 4) s.size)).all digC = ((bl s).drop (c + 4)).all digC by rw [bl_extract, List.take_of_length_le (by rw [List.length_drop, bl_len]; omega)]]
      obtain ⟨b4, hb4⟩ : ∃ b, ((bl s).drop (c + 4)).all digC = b := ⟨_, rfl⟩
      rw [hb4] at HP ⊢
      clear hb4
      cases b1 with
      | false =>
        go_wp2
        go_ret2
        exact HNO.out HJ.out
      | true =>
        cases b2 with
        | false =>
          go_wp2
          go_ret2
          exact HNO.out HJ.out
        | true =>
          cases b3 with
          | false =>
            go_wp2
            go_ret2
            exact HNO.out HJ.out
          | true =>
            cases b4 with
            | false =>
              go_wp2
              go_ret2
              exact HNO.out HJ.out
            | true =>
              exfalso
              have h := HP.out
              simp at h
    | true =>
      have HD := Lib.hid hd
      clear hd
      obtain ⟨n1, h1⟩ : ∃ n, numV ((bl s).take c) = n := ⟨_, rfl⟩
      obtain ⟨n2, h2⟩ : ∃ n, numV (((bl s).drop c).take 2) = n := ⟨_, rfl⟩
      obtain ⟨n3, h3⟩ : ∃ n, numV (((bl s).drop (c + 2)).take 2) = n := ⟨_, rfl⟩
      obtain ⟨n4, h4⟩ : ∃ n, numV ((bl s).drop (c + 4)) = n := ⟨_, rfl⟩
      have b1 : n1 < 1000 := by
        rw [← h1]; exact numV_small (k := 3) (all_of_take _ HD.out) (by rw [List.length_take]; omega)
      have b2 : n2 < 100 := by
        rw [← h2]; exact numV_small (k := 2) (all_of_take _ (all_of_drop _ HD.out)) (by rw [List.length_take]; omega)
      have b3 : n3 < 100 := by
        rw [← h3]; exact numV_small (k := 2) (all_of_take _ (all_of_drop _ HD.out)) (by rw [List.length_take]; omega)
      have b4 : n4 < 100 := by
        rw [← h4]; exact numV_small (k := 2) (all_of_drop _ HD.out) (by rw [List.length_drop, HLE.out]; omega)
      have HV : Hid ((joinV (bl s) c : Int) = (n1 : Int) * 360000 + (n2 : Int) * 6000 + (n3 : Int) * 100 + (n4 : Int)) := by
        unfold Hid joinV; rw [h1, h2, h3, h4]; omega
      have HB : Hid (joinB (bl s) c = (decide (n2 < 60) && decide (n3 < 60))) := by
        unfold Hid joinB; rw [HD.out, HLE.out, h2, h3]; simp
      have i1 : (n1 : Int) < 1000 := by omega
      have i2 : (n2 : Int) < 100 := by omega
      have i3 : (n3 : Int) < 100 := by omega
      have i4 : (n4 : Int) < 100 := by omega
      have H1 := Lib.hid h1
      have H2 := Lib.hid h2
      have H3 := Lib.hid h3
      have H4 := Lib.hid h4
      clear h1 h2 h3 h4
      go_enter Tryz.func292, Tryz.ntmps292
      go_wp2_with fail
      refine (rvalue_yes _ n1 _ (by rw [ByteArray.size_extract]; omega) (by rw [bl_extract]; exact all_of_take _ (all_of_drop _ HD.out)) (by rw [bl_extract]; first | exact H1.out | (rw [List.drop_zero]; exact H1.out))).mono ?_
      rintro e w' ⟨rfl, rfl⟩
      go_wp2_with fail
      refine (rvalue_yes _ n2 _ (by rw [ByteArray.size_extract]; omega) (by rw [bl_extract]; exact all_of_take _ (all_of_drop _ HD.out)) (by rw [bl_extract, show c + 2 - c = 2 by omega]; exact H2.out)).mono ?_
      rintro e w' ⟨rfl, rfl⟩
      go_wp2_with fail
      refine (rvalue_yes _ n3 _ (by rw [ByteArray.size_extract]; omega) (by rw [bl_extract]; exact all_of_take _ (all_of_drop _ HD.out)) (by rw [bl_extract, show c + 4 - (c + 2) = 2 by omega]; exact H3.out)).mono ?_
      rintro e w' ⟨rfl, rfl⟩
      go_wp2_with fail
      refine (rvalue_yes _ n4 _ (by rw [ByteArray.size_extract]; omega) (by rw [bl_extract]; exact all_of_take _ (all_of_drop _ HD.out)) (by rw [bl_extract, List.take_of_length_le (by rw [List.length_drop, bl_len]; omega)]; exact H4.out)).mono ?_
      rintro e w' ⟨rfl, rfl⟩
      rcases Nat.lt_or_ge n2 60 with k2 | k2
      · have k2' : (n2 : Int) < 60 := by omega
        rcases Nat.lt_or_ge n3 60 with k3 | k3
        · have k3' : (n3 : Int) < 60 := by omega
          have HJ : Hid (joinB (bl s) c = true) := by unfold Hid; rw [HB.out, decide_eq_true k2, decide_eq_true k3]; rfl
          go_wp2
          go_ret2
          exact HYES.out HJ.out _ HV.out
        · have k3' : (60 : Int) ≤ (n3 : Int) := by omega
          have HJ : Hid (joinB (bl s) c = false) := by unfold Hid; rw [HB.out, decide_eq_false (p := n3 < 60) (by omega), Bool.and_false]
          go_wp2
          go_ret2
          exact HNO.out HJ.out
      · have k2' : (60 : Int) ≤ (n2 : Int) := by omega
        have HJ : Hid (joinB (bl s) c = false) := by unfold Hid; rw [HB.out, decide_eq_false (p := n2 < 60) (by omega), Bool.false_and]
        go_wp2
        go_ret2
        exact HNO.out HJ.out
  · have HJ : Hid (joinB (bl s) c = false) := by
      unfold Hid joinB; rw [decide_eq_false (p := (bl s).length = c + 6) (by rw [bl_len]; exact hl)]; rfl
    have hne : ((s.size : Int) != (c : Int) + 6) = true := bne_iff_ne.2 (by omega)
    have hc0 : (0 : Int) ≤ (c : Int) := by omega
    have hc3 : (c : Int) ≤ 3 := by omega
    clear hl
    go_enter Tryz.func292, Tryz.ntmps292
    go_wp2
    go_ret2
    exact HNO.out HJ.out
end Go.Proofs.YtlgajjlnbcbijaaGreatDoor
