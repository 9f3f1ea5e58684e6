/-
  Contracts: the number that digits mean, on both sides.
-/
import Derived.Test.YtlgajjlnbcbijaaGreatDoorAngL
import Derived.IntWalk
namespace Go.Proofs.YtlgajjlnbcbijaaGreatDoor
open Go.RowKit
set_option linter.unusedVariables false
set_option linter.unusedSimpArgs false

theorem take_snoc' (s : ByteArray) (k : Nat) (h : k < s.size) : (bl s).take (k + 1) = (bl s).take k ++ [s[k]] := by
  rw [List.take_succ_eq_append_getElem (by rw [bl_len]; exact h)]; rfl
theorem digC_of {c : UInt8} (h1 : (48 : Int) ≤ (c.toNat : Int)) (h2 : (c.toNat : Int) ≤ 57) : digC c = true := by
  unfold digC; rw [decide_eq_true (by omega), decide_eq_true (by omega)]; rfl
theorem digC_not {c : UInt8} (h : (c.toNat : Int) < 48 ∨ 57 < (c.toNat : Int)) : digC c = false := by
  unfold digC
  rcases h with h | h
  · rw [decide_eq_false (p := 48 ≤ c.toNat) (by omega)]; rfl
  · rw [decide_eq_false (p := c.toNat ≤ 57) (by omega), Bool.and_false]
theorem all_take_snoc {s : ByteArray} {k : Nat} (hk : k < s.size) (h : ((bl s).take k).all digC = true) (hc : digC s[k] = true) : ((bl s).take (k + 1)).all digC = true := by
  rw [take_snoc' s k hk, List.all_append, h, List.all_cons, hc]; rfl
theorem all_no {s : ByteArray} {k : Nat} (hk : k < s.size) (hc : digC s[k] = false) : (bl s).all digC = false :=
  all_false_at (l := bl s) (k := k) (by rw [bl_len]; exact hk) hc
def DigPost (s : ByteArray) (w : World) (e : Ending) (w' : World) : Prop := e = .returned (.tuple #[.int .i64 (if (bl s).all digC then (numV (bl s) : Int) else 0), .bool ((bl s).all digC)]) ∧ w = w'
set_option maxRecDepth 100000 in
set_option maxHeartbeats 1000000 in
theorem number_any (s : ByteArray) (w : World) (hs : s.size ≤ 9) : Calls Tryz.prog 298 #[.string s] w (DigPost s w) := by
  have HNO : Hid ((bl s).all digC = false → DigPost s w (.returned (.tuple #[.int .i64 0, .bool false])) w) := by
    intro h; unfold DigPost; rw [h]; exact ⟨rfl, rfl⟩
  have HYES : Hid ((bl s).all digC = true → ∀ n : Nat, numV (bl s) = n → DigPost s w (.returned (.tuple #[.int .i64 (n : Int), .bool true])) w) := by
    intro h n hn; unfold DigPost; rw [h, hn]; exact ⟨rfl, rfl⟩
  go_enter Tryz.func298, Tryz.ntmps298
  go_wp2
  go_loop [4, 8] (fun nv iv => ∃ k n : Nat, k ≤ s.size ∧ iv = .int .i64 k ∧ nv = .int .i64 n ∧ Hid (numV ((bl s).take k) = n ∧ ((bl s).take k).all digC = true)) (fun _ iv => s.size - (intOf iv).toNat)
  case atStart => exact ⟨0, 0, Nat.zero_le _, rfl, rfl, rfl, rfl⟩
  case round =>
    obtain ⟨k, n, hk, rfl, rfl, hn⟩ := hrel
    by_cases hlt : k < s.size
    · have hb : (n : Int) ≤ 100000000 := by
        have h1 := numV_lt _ hn.out.2
        rw [hn.out.1, List.length_take, bl_len, Nat.min_eq_left hk] at h1
        have h2 : 10 ^ k ≤ 10 ^ 8 := Nat.pow_le_pow_right (by decide) (by omega)
        omega
      have hb0 : (0 : Int) ≤ (n : Int) := by omega
      have HST : Hid (numV ((bl s).take (k + 1)) = 10 * n + (s[k].toNat - 48)) := by
        unfold Hid; rw [take_snoc' s k hlt, numV_snoc, hn.out.1]
      have hki : (k : Int) < (s.size : Int) := by omega
      rcases Int.lt_or_le (s[k].toNat : Int) 48 with h1 | h1
      · have HF := Lib.hid (all_no hlt (digC_not (.inl h1)))
        go_wp2
        go_ret2
        exact HNO.out HF.out
      · rcases Int.lt_or_le 57 (s[k].toNat : Int) with h2 | h2
        · have HF := Lib.hid (all_no hlt (digC_not (.inr h2)))
          go_wp2
          go_ret2
          exact HNO.out HF.out
        · have HT := Lib.hid (all_take_snoc hlt hn.out.2 (digC_of h1 h2))
          have HC : Hid (10 * (n : Int) + ((s[k].toNat : Int) - 48) = ((10 * n + (s[k].toNat - 48) : Nat) : Int)) := by
            unfold Hid; omega
          go_wp2
          go_round
          case rel => exact ⟨k + 1, _, hlt, by go_num, congrArg (Value.int .i64) HC.out, HST.out, HT.out⟩
          case measure => simp [intOf]; omega
    · have HE : Hid ((bl s).take k = bl s) := List.take_of_length_le (by rw [bl_len]; omega)
      go_wp2
      go_ret2
      exact HYES.out (by rw [← HE.out]; exact hn.out.2) n (by rw [← HE.out]; exact hn.out.1)
set_option maxRecDepth 100000 in
set_option maxHeartbeats 1000000 in
theorem rvalue_any (s : ByteArray) (w : World) (hs : s.size ≤ 9) : Calls Tryz.prog 313 #[.string s] w (DigPost s w) := by
  have HNO : Hid ((bl s).all digC = false → DigPost s w (.returned (.tuple #[.int .i64 0, .bool false])) w) := by
    intro h; unfold DigPost; rw [h]; exact ⟨rfl, rfl⟩
  have HYES : Hid ((bl s).all digC = true → ∀ n : Nat, numV (bl s) = n → DigPost s w (.returned (.tuple #[.int .i64 (n : Int), .bool true])) w) := by
    intro h n hn; unfold DigPost; rw [h, hn]; exact ⟨rfl, rfl⟩
  go_enter Tryz.func313, Tryz.ntmps313
  go_wp2
  go_loop [4, 5] (fun nv iv => ∃ k n : Nat, k ≤ s.size ∧ iv = .int .i64 k ∧ nv = .int .i64 n ∧ Hid (numV ((bl s).take k) = n ∧ ((bl s).take k).all digC = true)) (fun _ iv => s.size - (intOf iv).toNat)
  case atStart => exact ⟨0, 0, Nat.zero_le _, rfl, rfl, rfl, rfl⟩
  case round =>
    obtain ⟨k, n, hk, rfl, rfl, hn⟩ := hrel
    by_cases hlt : k < s.size
    · have hb : (n : Int) ≤ 100000000 := by
        have h1 := numV_lt _ hn.out.2
        rw [hn.out.1, List.length_take, bl_len, Nat.min_eq_left hk] at h1
        have h2 : 10 ^ k ≤ 10 ^ 8 := Nat.pow_le_pow_right (by decide) (by omega)
        omega
      have hb0 : (0 : Int) ≤ (n : Int) := by omega
      have HST : Hid (numV ((bl s).take (k + 1)) = 10 * n + (s[k].toNat - 48)) := by
        unfold Hid; rw [take_snoc' s k hlt, numV_snoc, hn.out.1]
      have hki : (k : Int) < (s.size : Int) := by omega
      rcases Int.lt_or_le (s[k].toNat : Int) 48 with h1 | h1
      · have HF := Lib.hid (all_no hlt (digC_not (.inl h1)))
        go_wp2
        go_ret2
        exact HNO.out HF.out
      · rcases Int.lt_or_le 57 (s[k].toNat : Int) with h2 | h2
        · have HF := Lib.hid (all_no hlt (digC_not (.inr h2)))
          go_wp2
          go_ret2
          exact HNO.out HF.out
        · have HT := Lib.hid (all_take_snoc hlt hn.out.2 (digC_of h1 h2))
          have HC : Hid (10 * (n : Int) + ((s[k].toNat : Int) - 48) = ((10 * n + (s[k].toNat - 48) : Nat) : Int)) := by
            unfold Hid; omega
          go_wp2
          go_round
          case rel => exact ⟨k + 1, _, hlt, by go_num, congrArg (Value.int .i64) HC.out, HST.out, HT.out⟩
          case measure => simp [intOf]; omega
    · have HE : Hid ((bl s).take k = bl s) := List.take_of_length_le (by rw [bl_len]; omega)
      go_wp2
      go_ret2
      exact HYES.out (by rw [← HE.out]; exact hn.out.2) n (by rw [← HE.out]; exact hn.out.1)
end Go.Proofs.YtlgajjlnbcbijaaGreatDoor
