/-
  Contracts: square roots rounded down; both sides.
-/
import Derived.Test.YtgnnblkpjankgaaGreatDoorSphX
import Derived.Test.YtgnnblkpjankgaaGreatDoorShelf2
import Derived.Deep.LoopGhost
import Derived.Lib.ItoaNum
namespace Go.Proofs.YtgnnblkpjankgaaGreatDoor
open Go.RowKit
set_option linter.unusedVariables false
set_option linter.unusedSimpArgs false
theorem isq_le {n x : Nat} (h : n < (x + 1) * (x + 1)) : isq n ≤ x := by
  obtain ⟨h3, h4⟩ := isq_spec n
  rcases Nat.lt_or_ge x (isq n) with h1 | h1
  · have := Nat.mul_le_mul (show x + 1 ≤ isq n by omega) (show x + 1 ≤ isq n by omega); omega
  · exact h1
theorem isq_ge {n x : Nat} (h : x * x ≤ n) : x ≤ isq n := by
  obtain ⟨h3, h4⟩ := isq_spec n
  rcases Nat.lt_or_ge (isq n) x with h1 | h1
  · have := Nat.mul_le_mul (show isq n + 1 ≤ x by omega) (show isq n + 1 ≤ x by omega); omega
  · exact h1
/-- Newton's step stays at or above the root -/
theorem newton_ge {n x : Nat} (hx : 0 < x) : isq n ≤ (x + n / x) / 2 := by
  obtain ⟨h3, h4⟩ := isq_spec n
  rcases Nat.lt_or_ge ((x + n / x) / 2) (isq n) with h1 | h1
  · exfalso
    have h5 : n < x * (n / x) + x := by have := Nat.lt_mul_div_succ n hx; rw [Nat.mul_succ] at this; exact this
    generalize n / x = q at *
    generalize isq n = s at *
    have h6 : x + q + 1 ≤ 2 * s := by omega
    have h7 : n < x * (q + 1) := by rw [Nat.mul_succ]; exact h5
    have h8 : x * (q + 1) ≤ x * (2 * s - x) := Nat.mul_le_mul_left _ (by omega)
    have h9 : x * (2 * s - x) ≤ s * s := by
      obtain ⟨d, hd⟩ : ∃ d, 2 * s = x + d := ⟨2 * s - x, by omega⟩
      have e : 2 * s - x = d := by omega
      rw [e]
      have : (2 * s) * (2 * s) = (x + d) * (x + d) := by rw [hd]
      have h10 : 4 * (x * d) ≤ (x + d) * (x + d) := by
        rcases Nat.le_total x d with hh | hh
        · obtain ⟨t, rfl⟩ := Nat.exists_eq_add_of_le hh; grind
        · obtain ⟨t, rfl⟩ := Nat.exists_eq_add_of_le hh; grind
      have h11 : (2 * s) * (2 * s) = 4 * (s * s) := by grind
      omega
    omega
  · exact h1
theorem newton_stop {n x : Nat} (hx : 0 < x) (h : isq n ≤ x) (hy : x ≤ (x + n / x) / 2) : x = isq n := by
  have h1 : x ≤ n / x := by omega
  have h2 : x * x ≤ n := by
    have := Nat.mul_le_mul_left x h1
    have := Nat.mul_div_le n x
    omega
  exact Nat.le_antisymm (isq_ge h2) h
theorem newton_start {n L : Nat} (h : n < 2 ^ L) : isq n ≤ 2 ^ ((L + 1) / 2) := by
  refine isq_le (Nat.lt_of_lt_of_le h ?_)
  have h1 : 2 ^ L ≤ 2 ^ ((L + 1) / 2) * 2 ^ ((L + 1) / 2) := by rw [← Nat.pow_add]; exact Nat.pow_le_pow_right (by omega) (by omega)
  exact Nat.le_trans h1 (Nat.mul_le_mul (by omega) (by omega))
set_option maxRecDepth 100000 in
set_option maxHeartbeats 1000000 in
theorem sqrt_any (n : Nat) (w : World) (hn : n ≤ 2900000000000000000) :
    Calls Tryz.prog 45 #[.int .i64 (n : Int)] w fun e w' => e = .returned (.int .i64 (isq n : Int)) ∧ w' = w := by
  rcases Nat.eq_zero_or_pos n with h0 | h0
  · have HI : Hid (isq n = 0) := isq_eq (by omega) (by omega)
    subst h0
    go_enter Tryz.func45, Tryz.ntmps45
    go_wp2
    go_ret
    exact ⟨ret_int (by rw [HI.out]; rfl), rfl⟩
  · have hb : n < 2 ^ Lib.bitLen n := (Lib.bitLenAux_bounds 64 n (by omega) (by omega)).2.2
    have hL : Lib.bitLen n ≤ 62 := Lib.bitLen_le n 62 (by omega) (by omega)
    obtain ⟨L, hLe⟩ : ∃ L, Lib.bitLen n = L := ⟨_, rfl⟩
    have hlen := fun w => Tryz.bits_Len64 (n : Int) w (by omega) (by omega)
    have hlen : ∀ w, Calls Tryz.prog 68 #[.int .u64 (n : Int)] w fun e w' => e = .returned (.int .i64 (L : Int)) ∧ w' = w := by
      intro w
      have := hlen w
      rw [Int.toNat_natCast, hLe] at this
      exact this
    rw [hLe] at hb hL
    have HS : Hid (isq n ≤ 2 ^ ((L + 1) / 2)) := newton_start hb
    have h2 : 2 ^ ((L + 1) / 2) ≤ 2 ^ 31 := Nat.pow_le_pow_right (by omega) (by omega)
    have h3 : 0 < 2 ^ ((L + 1) / 2) := Nat.pow_pos (by omega)
    have hq : ((L : Int) + 1).tdiv 2 = (((L + 1) / 2 : Nat) : Int) := by rw [Int.tdiv_eq_ediv_of_nonneg (by omega)]; omega
    obtain ⟨X, hX⟩ : ∃ X : Nat, 2 ^ ((L + 1) / 2) = X := ⟨_, rfl⟩
    rw [hX] at HS h2 h3
    have hwx : wrap64 ((2 : Int) ^ ((L + 1) / 2)) = (X : Int) := by
      have e : ((2 : Int) ^ ((L + 1) / 2)) = (X : Int) := by rw [← hX]; push_cast; rfl
      rw [e]; unfold wrap64; omega
    clear hX
    go_enter Tryz.func45, Tryz.ntmps45
    go_wp2_with fail
    refine (hlen _).mono ?_
    rintro e w1 ⟨rfl, hw⟩
    have HW := Lib.hid hw
    clear hw hlen hb
    go_wp2_with fail
    rw [hwx]
    clear hwx
    go_loopg [3, 4] X (fun g a b wr => ∃ x : Nat, a = .int .i64 (x : Int) ∧ x ≤ g ∧ 0 < x ∧ x ≤ 2147483648 ∧ Hid (isq n ≤ x) ∧ Hid (wr = w))
    case atStart => exact ⟨X, by first | rfl | (rw [hwx]) | go_num, Nat.le_refl _, h3, h2, HS, HW⟩
    case round =>
      obtain ⟨x, rfl, hxg, hx0, hx1, hsx, hw⟩ := hrel
      obtain ⟨q, hq⟩ : ∃ q, n / x = q := ⟨_, rfl⟩
      have hqn : q ≤ n := by rw [← hq]; exact Nat.div_le_self _ _
      have hd1 : (n : Int) / (x : Int) = (q : Int) := by rw [← hq]; exact (Int.natCast_ediv n x).symm
      obtain ⟨y, hy⟩ : ∃ y, (x + q) / 2 = y := ⟨_, rfl⟩
      have hd2 : ((x : Int) + (q : Int)) / 2 = (y : Int) := by omega
      by_cases hyx : x ≤ y
      · have hyz : (x : Int) ≤ (y : Int) := by omega
        have HE : Hid (x = isq n) := newton_stop hx0 hsx.out (by rw [hq, hy]; exact hyx)
        clear hq hy hsx
        go_wp2
        go_ret
        exact ⟨ret_int (by rw [HE.out]), hw.out⟩
      · have hyz : ¬ (x : Int) ≤ (y : Int) := by omega
        have HG : Hid (isq n ≤ y) := by rw [← hy, ← hq]; exact newton_ge hx0
        have h0 : 0 < y := by
          have h1 : 0 < isq n := by
            rcases Nat.eq_zero_or_pos (isq n) with h | h
            · have := isq_zero h; omega
            · exact h
          have := HG.out; omega
        clear hq hy hsx
        go_wp2
        go_roundg y
        case measure => omega
        case rel => exact ⟨y, by first | rfl | go_num | (trace_state; fail), Nat.le_refl _, h0, by omega, HG, hw⟩
theorem sq_lt' {a b : Nat} (h : a ≤ b) : a * a ≤ b * b := Nat.mul_le_mul h h
set_option maxRecDepth 100000 in
set_option maxHeartbeats 1000000 in
theorem rsqrt_any (n : Nat) (w : World) (hn : n ≤ 2900000000000000000) :
    Calls Tryz.prog 80 #[.int .i64 (n : Int)] w fun e w' => e = .returned (.int .i64 (isq n : Int)) ∧ w' = w := by
  have hI := isq_bd hn
  go_enter Tryz.func80, Tryz.ntmps80
  go_wp2
  go_loopg [3, 4] 2147483648 (fun g a b wr => ∃ r t k : Nat, a = .int .u64 (r : Int) ∧ b = .int .u64 (t : Int) ∧ t ≤ g ∧ (t = 2 ^ k ∨ t = 0) ∧ r + 2 * t ≤ 4294967296 ∧ r ≤ 4294967295 ∧ Hid (r * r ≤ n ∧ n < (r + max (2 * t) 1) * (r + max (2 * t) 1)) ∧ Hid (wr = w))
  case atStart => exact ⟨0, 2147483648, 31, rfl, rfl, Nat.le_refl _, .inl rfl, by omega, by omega, ⟨by omega, by simp; omega⟩, rfl⟩
  case round =>
    obtain ⟨r, t, k, rfl, rfl, htg, hk, hr, hr1, hI2, hw⟩ := hrel
    by_cases h0 : t = 0
    · subst h0
      have HE : Hid (isq n = r) := isq_eq hI2.out.1 (by simpa using hI2.out.2)
      have hr2 : r ≤ 1702938636 := by rw [← HE.out]; exact hI
      go_wp2
      go_ret
      exact ⟨ret_int (by rw [HE.out]), hw.out⟩
    · have htz : (0 : Int) < (t : Int) := by omega
      have hhalf : ∃ k', t / 2 = 2 ^ k' ∨ t / 2 = 0 := by
        rcases hk with hk | hk
        · cases k with
          | zero => exact ⟨0, .inr (by omega)⟩
          | succ k => exact ⟨k, .inl (by rw [hk, Nat.pow_succ]; omega)⟩
        · exact ⟨0, .inr (by omega)⟩
      have heven : t = 1 ∨ t = 2 * (t / 2) := by
        rcases hk with hk | hk
        · cases k with
          | zero => exact .inl hk
          | succ k => right; have := Nat.pow_succ (n := 2) (m := k); omega
        · omega
      obtain ⟨t2, ht2⟩ : ∃ t2, t / 2 = t2 := ⟨_, rfl⟩
      rw [ht2] at hhalf heven
      have hd : (t : Int) / 2 = (t2 : Int) := by omega
      have hmax : max (2 * t) 1 = 2 * t := by omega
      have hmax2 : max (2 * t2) 1 = t := by omega
      obtain ⟨k2, hk2⟩ := hhalf
      have hsm : (r + t) * (r + t) ≤ 4294967295 * 4294967295 := sq_lt' (by omega)
      obtain ⟨s, hs⟩ : ∃ s, (r + t) * (r + t) = s := ⟨_, rfl⟩
      have hsz : ((r : Int) + (t : Int)) * ((r : Int) + (t : Int)) = (s : Int) := by rw [← hs]; push_cast; rfl
      rw [hs] at hsm
      by_cases hc : s ≤ n
      · have hcz : (s : Int) ≤ (n : Int) := by omega
        have HN : Hid ((r + t) * (r + t) ≤ n ∧ n < (r + t + max (2 * t2) 1) * (r + t + max (2 * t2) 1)) := by
          refine ⟨by rw [hs]; exact hc, ?_⟩
          have := hI2.out.2
          rw [hmax] at this
          rw [hmax2, show r + t + t = r + 2 * t by omega]; exact this
        clear hs hI2 hI
        go_wp2
        go_roundg t2
        case measure => omega
        case rel => exact ⟨r + t, t2, k2, by go_num, by go_num, Nat.le_refl _, hk2, by omega, by omega, HN, hw⟩
      · have hcz : ¬ (s : Int) ≤ (n : Int) := by omega
        have HN : Hid (r * r ≤ n ∧ n < (r + max (2 * t2) 1) * (r + max (2 * t2) 1)) := ⟨hI2.out.1, by rw [hmax2, hs]; omega⟩
        clear hs hI2 hI
        go_wp2
        go_roundg t2
        case measure => omega
        case rel => exact ⟨r, t2, k2, by go_num, by go_num, Nat.le_refl _, hk2, by omega, by omega, HN, hw⟩
end Go.Proofs.YtgnnblkpjankgaaGreatDoor
