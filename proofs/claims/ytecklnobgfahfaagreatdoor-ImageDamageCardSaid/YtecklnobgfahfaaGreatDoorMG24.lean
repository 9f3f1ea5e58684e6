/-
  Several texts as one.
  Plain laws: a burst of damage changes the checksum of a sealed string.
  Plain laws: bits of a string are flipped one by one.
  Contract: bits of a string are flipped (crc.Flip).
-/
import Derived.Test.YtecklnobgfahfaaGreatDoorMG06
import Derived.Test.YtecklnobgfahfaaGreatDoorMG19
import Derived.StillTailTactics
namespace Go.Proofs.YtecklnobgfahfaaGreatDoor
open Go.RowKit
set_option linter.unusedVariables false
set_option linter.unusedSimpArgs false
/-- one bit step, of registers of any size -/
def zs (r : Nat) : Nat := if r % 2 = 1 then (r / 2) ^^^ 3988292384 else r / 2
def zN : Nat → Nat → Nat
  | 0, r => r
  | k + 1, r => zN k (zs r)
theorem xor_half (a b : Nat) : (a ^^^ b) / 2 = (a / 2) ^^^ (b / 2) := by
  apply Nat.eq_of_testBit_eq
  intro i
  rw [Nat.testBit_xor, ← Nat.testBit_succ, ← Nat.testBit_succ, ← Nat.testBit_succ, Nat.testBit_xor]
theorem xor_odd (a b : Nat) : (a ^^^ b) % 2 = (a % 2 + b % 2) % 2 := by
  have h := Nat.testBit_xor a b 0
  simp only [Nat.testBit_zero] at h
  rcases Nat.mod_two_eq_zero_or_one a with h1 | h1 <;> rcases Nat.mod_two_eq_zero_or_one b with h2 | h2 <;> rcases Nat.mod_two_eq_zero_or_one (a ^^^ b) with h3 | h3 <;> rw [h1, h2, h3] at h ⊢ <;> simp at h ⊢
theorem zs_xor (a b : Nat) : zs (a ^^^ b) = zs a ^^^ zs b := by
  unfold zs
  rw [xor_half, xor_odd]
  by_cases h1 : a % 2 = 1 <;> by_cases h2 : b % 2 = 1
  · rw [if_neg (by omega), if_pos h1, if_pos h2, Nat.xor_assoc, Nat.xor_comm (b / 2), ← Nat.xor_assoc 3988292384, Nat.xor_self, Nat.zero_xor]
  · rw [if_pos (by omega), if_pos h1, if_neg h2, Nat.xor_assoc, Nat.xor_assoc, Nat.xor_comm (b / 2)]
  · rw [if_pos (by omega), if_neg h1, if_pos h2, Nat.xor_assoc]
  · rw [if_neg (by omega), if_neg h1, if_neg h2]
theorem zN_xor : ∀ (k a b : Nat), zN k (a ^^^ b) = zN k a ^^^ zN k b
  | 0, _, _ => rfl
  | k + 1, a, b => by show zN k (zs (a ^^^ b)) = _; rw [zs_xor, zN_xor k]; rfl
theorem zN_add : ∀ (j k r : Nat), zN (j + k) r = zN k (zN j r)
  | 0, k, r => by rw [Nat.zero_add]; rfl
  | j + 1, k, r => by rw [show j + 1 + k = (j + k) + 1 by omega]; show zN (j + k) (zs r) = _; rw [zN_add j k]; rfl
theorem zs_two (r : Nat) : zs (2 * r) = r := by unfold zs; rw [if_neg (by omega)]; omega
theorem zN_pow : ∀ (s r : Nat), zN s (r * 2 ^ s) = r
  | 0, r => by show r * 2 ^ 0 = r; omega
  | s + 1, r => by
    show zN s (zs (r * 2 ^ (s + 1))) = r
    rw [Nat.pow_succ, show r * (2 ^ s * 2) = 2 * (r * 2 ^ s) by rw [← Nat.mul_assoc]; omega, zs_two, zN_pow s r]
theorem zs_lt {r : Nat} (h : r < 4294967296) : zs r < 4294967296 := by
  unfold zs; split
  · exact Nat.xor_lt_two_pow (n := 32) (by omega) (by omega)
  · omega
theorem zs_ne {r : Nat} (h : r < 4294967296) (h0 : r ≠ 0) : zs r ≠ 0 := by
  unfold zs; split
  · intro h2
    have h3 : r / 2 = 3988292384 := by
      have h4 := congrArg (· ^^^ 3988292384) h2
      simp only [Nat.xor_assoc, Nat.xor_self, Nat.xor_zero, Nat.zero_xor] at h4
      exact h4
    omega
  · omega
theorem zN_ne : ∀ (k : Nat) {r : Nat}, r < 4294967296 → r ≠ 0 → zN k r ≠ 0
  | 0, r, _, h0 => h0
  | k + 1, r, h, h0 => zN_ne k (zs_lt h) (zs_ne h h0)
theorem add_xor {a b : Nat} (h : a < 256) : a + 256 * b = a ^^^ (b * 2 ^ 8) := by
  have h1 := Nat.two_pow_add_eq_or_of_lt (i := 8) (b := a) (by omega) b
  have h2 : a ^^^ (b * 2 ^ 8) = (2 ^ 8 * b) ||| a := by
    apply Nat.eq_of_testBit_eq
    intro i
    rw [Nat.testBit_xor, Nat.testBit_or, Nat.mul_comm b, Nat.testBit_two_pow_mul]
    by_cases hi : i < 8
    · simp [show ¬ 8 ≤ i by omega]
    · have : a.testBit i = false := Nat.testBit_lt_two_pow (Nat.lt_of_lt_of_le (show a < 2 ^ 8 by omega) (Nat.pow_le_pow_right (by decide) (by omega)))
      simp [this]
  rw [h2, ← h1]; omega
/-- the checksum's register over bytes -/
def crN (r : Nat) (bs : List UInt8) : Nat := bs.foldl (fun r b => zN 8 (r ^^^ b.toNat)) r
theorem crN_all : ∀ (bs : List UInt8) (r : Nat), crN r bs = zN (8 * bs.length) (r ^^^ loN bs)
  | [], r => by show r = r ^^^ 0; rw [Nat.xor_zero]
  | b :: bs, r => by
    show crN (zN 8 (r ^^^ b.toNat)) bs = _
    rw [crN_all bs, List.length_cons, show 8 * (bs.length + 1) = 8 + 8 * bs.length by omega, zN_add]
    show _ = zN (8 * bs.length) (zN 8 (r ^^^ (b.toNat + 256 * loN bs)))
    rw [add_xor b.toNat_lt, ← Nat.xor_assoc, zN_xor 8 (r ^^^ b.toNat), zN_pow]
/-- a burst is seen -/
theorem burst_ne {L s W : Nat} (hW : W < 4294967296) (h0 : W ≠ 0) (hs : s ≤ L) : zN L (W * 2 ^ s) ≠ 0 := by
  rw [show L = s + (L - s) by omega, zN_add, zN_pow]
  exact zN_ne _ hW h0
theorem burst_form {E pat t : Nat} (h : 2147483648 * E = pat * 2 ^ t) (hp : pat < 4294967296) (h0 : pat ≠ 0) : ∃ W s, E = W * 2 ^ s ∧ W < 4294967296 ∧ W ≠ 0 ∧ s ≤ t - 31 := by
  rcases Nat.lt_or_ge t 31 with ht | ht
  · refine ⟨E, 0, by omega, ?_, ?_, by omega⟩
    · have h1 : 2 ^ t ≤ 2 ^ 31 := Nat.pow_le_pow_right (by decide) (by omega)
      have h2 : pat * 2 ^ t ≤ pat * 2 ^ 31 := Nat.mul_le_mul_left _ h1
      omega
    · intro e
      have h1 : 0 < 2 ^ t := Nat.two_pow_pos t
      have h2 : 0 < pat * 2 ^ t := Nat.mul_pos (by omega) h1
      omega
  · refine ⟨pat, t - 31, ?_, hp, h0, Nat.le_refl _⟩
    have h1 : 2 ^ t = 2147483648 * 2 ^ (t - 31) := by rw [show (2147483648 : Nat) = 2 ^ 31 from rfl, ← Nat.pow_add]; congr 1; omega
    rw [h1, Nat.mul_left_comm] at h
    exact Nat.eq_of_mul_eq_mul_left (by decide) h
theorem zN_succ : ∀ (k r : Nat), zN (k + 1) r = zs (zN k r)
  | 0, _ => rfl
  | k + 1, r => zN_succ k (zs r)
theorem stB_nat {n : Nat} (h : n < 4294967296) : stB (n : Int) = (zs n : Int) := by
  have ha : bits .and .u32 (n : Int) 1 = ((n % 2 : Nat) : Int) := by
    rw [u32_and (n : Int) 1 (by omega) (by omega) (by omega) (by omega), Int.toNat_natCast, show (1 : Int).toNat = 1 from rfl, Nat.and_one_is_mod]
  unfold stB zs
  rw [ha, show (n : Int) / 2 = ((n / 2 : Nat) : Int) by omega]
  by_cases h1 : n % 2 = 1
  · rw [h1, if_pos (by rfl), if_pos rfl, u32_xor _ _ (by omega) (by omega) (by omega) (by omega), Int.toNat_natCast]; rfl
  · rw [if_neg (by rw [show n % 2 = 0 by omega]; decide), if_neg h1]
theorem zN_lt : ∀ (k : Nat) {n : Nat}, n < 4294967296 → zN k n < 4294967296
  | 0, _, h => h
  | k + 1, _, h => zN_lt k (zs_lt h)
theorem stN_nat : ∀ (k : Nat) {n : Nat}, n < 4294967296 → stN k (n : Int) = (zN k n : Int)
  | 0, _, _ => rfl
  | k + 1, n, h => by
    show stB (stN k (n : Int)) = _
    rw [stN_nat k h, stB_nat (zN_lt k h), zN_succ]
theorem stF_nat {n : Nat} (b : UInt8) (h : n < 4294967296) : stF (n : Int) b = (zN 8 (n ^^^ b.toNat) : Int) := by
  have hb := b.toNat_lt
  unfold stF
  rw [u32_xor _ _ (by omega) (by omega) (by omega) (by omega), Int.toNat_natCast, Int.toNat_natCast]
  exact stN_nat 8 (Nat.xor_lt_two_pow (n := 32) (by omega) (by omega))
theorem crN_lt : ∀ (bs : List UInt8) {n : Nat}, n < 4294967296 → crN n bs < 4294967296
  | [], _, h => h
  | b :: bs, _, h => crN_lt bs (zN_lt 8 (Nat.xor_lt_two_pow (n := 32) (by omega) (by have := b.toNat_lt; omega)))
theorem crG_nat : ∀ (bs : List UInt8) {n : Nat}, n < 4294967296 → crG (n : Int) bs = (crN n bs : Int)
  | [], _, _ => rfl
  | b :: bs, n, h => by
    show crG (stF (n : Int) b) bs = _
    rw [stF_nat b h, crG_nat bs (zN_lt 8 (Nat.xor_lt_two_pow (n := 32) (by omega) (by have := b.toNat_lt; omega)))]; rfl
theorem crcF_nat (bs : List UInt8) : crcF bs = ((4294967295 ^^^ crN 4294967295 bs : Nat) : Int) := by
  unfold crcF
  have h1 := crN_lt bs (n := 4294967295) (by omega)
  rw [show (4294967295 : Int) = ((4294967295 : Nat) : Int) from rfl, crG_nat bs (by omega), u32_xor _ _ (by decide) (by decide) (by omega) (by omega), Int.toNat_natCast]; rfl
theorem loN_four {n : Nat} (h : n < 4294967296) : loN (fourL (n : Int)) = n := by
  have e : ∀ x : Int, (u8of x).toNat = (x % 256).toNat := fun x => by have := u8of_nat x; omega
  unfold fourL
  simp only [loN, e]
  omega
theorem crN_app (a b : List UInt8) (r : Nat) : crN r (a ++ b) = crN (crN r a) b := by unfold crN; rw [List.foldl_append]
/-- what every sealed string leaves -/
theorem seal_res {p : List UInt8} (h4 : 4 ≤ p.length) (h : opOk p = true) : crN 4294967295 p = zN 32 4294967295 := by
  unfold opOk at h
  rw [beq_iff_eq] at h
  have hl : (p.drop (p.length - 4)).length = 4 := by rw [List.length_drop]; omega
  have hR := crN_lt (p.take (p.length - 4)) (n := 4294967295) (by omega)
  have ht : loN (p.drop (p.length - 4)) = 4294967295 ^^^ crN 4294967295 (p.take (p.length - 4)) := by
    rw [h, crcF_nat]; exact loN_four (Nat.xor_lt_two_pow (n := 32) (by omega) (by omega))
  conv => lhs; rw [← List.take_append_drop (p.length - 4) p, crN_app, crN_all, hl, ht]
  rw [Nat.xor_comm 4294967295, ← Nat.xor_assoc, Nat.xor_self, Nat.zero_xor]
theorem damage {p q : List UInt8} {W s : Nat} (hl : q.length = p.length) (h4 : 4 ≤ p.length) (hp : opOk p = true) (he : loN q = loN p ^^^ (W * 2 ^ s)) (hW : W < 4294967296) (h0 : W ≠ 0) (hs : s ≤ 8 * p.length) : opOk q = false := by
  cases hq : opOk q with
  | false => rfl
  | true =>
    exfalso
    have r1 := seal_res h4 hp
    have r2 := seal_res (by omega) hq
    rw [crN_all] at r1 r2
    rw [hl, he, ← Nat.xor_assoc, zN_xor, r1] at r2
    have h1 : zN (8 * p.length) (W * 2 ^ s) = 0 := by
      have h2 := congrArg (zN 32 4294967295 ^^^ ·) r2
      simp only [← Nat.xor_assoc, Nat.xor_self, Nat.zero_xor] at h2
      exact h2
    exact burst_ne hW h0 hs h1
end Go.Proofs.YtecklnobgfahfaaGreatDoor
namespace Go.Proofs.YtecklnobgfahfaaGreatDoor
open Go.RowKit
set_option linter.unusedVariables false
set_option linter.unusedSimpArgs false
theorem add_xorN {a b i : Nat} (h : a < 2 ^ i) : a + 2 ^ i * b = a ^^^ (b * 2 ^ i) := by
  have h1 := Nat.two_pow_add_eq_or_of_lt (i := i) (b := a) h b
  have h2 : a ^^^ (b * 2 ^ i) = (2 ^ i * b) ||| a := by
    apply Nat.eq_of_testBit_eq
    intro j
    rw [Nat.testBit_xor, Nat.testBit_or, Nat.mul_comm b, Nat.testBit_two_pow_mul]
    by_cases hi : j < i
    · simp [show ¬ i ≤ j by omega]
    · have : a.testBit j = false := Nat.testBit_lt_two_pow (Nat.lt_of_lt_of_le h (Nat.pow_le_pow_right (by decide) (by omega)))
      simp [this]
  rw [h2, ← h1]; omega
theorem xor_pow (a b i : Nat) : (a ^^^ b) * 2 ^ i = (a * 2 ^ i) ^^^ (b * 2 ^ i) := by
  apply Nat.eq_of_testBit_eq
  intro j
  rw [Nat.testBit_xor, Nat.mul_comm, Nat.mul_comm a, Nat.mul_comm b, Nat.testBit_two_pow_mul, Nat.testBit_two_pow_mul, Nat.testBit_two_pow_mul, Nat.testBit_xor]
  by_cases h : i ≤ j <;> simp [h]
/-- one bit of a byte -/
def flB (b : UInt8) (m : Nat) : UInt8 := UInt8.ofNat (b.toNat ^^^ 2 ^ m)
theorem flB_nat {b : UInt8} {m : Nat} (h : m < 8) : (flB b m).toNat = b.toNat ^^^ 2 ^ m := by
  unfold flB
  rw [UInt8.toNat_ofNat']
  refine Nat.mod_eq_of_lt (Nat.xor_lt_two_pow (n := 8) b.toNat_lt ?_)
  exact Nat.pow_lt_pow_right (by decide) h
theorem loN_flip : ∀ (q : List UInt8) (j m : Nat) (hj : j < q.length), m < 8 → loN (q.set j (flB q[j] m)) = loN q ^^^ 2 ^ (8 * j + m)
  | [], j, m, hj, _ => absurd hj (by simp)
  | b :: q, 0, m, _, hm => by
    show (flB b m).toNat + 256 * loN q = (b.toNat + 256 * loN q) ^^^ 2 ^ (8 * 0 + m)
    rw [add_xor (flB b m).toNat_lt, add_xor b.toNat_lt, flB_nat hm, show 8 * 0 + m = m by omega, Nat.xor_assoc, Nat.xor_comm (2 ^ m), ← Nat.xor_assoc]
  | b :: q, j + 1, m, hj, hm => by
    have hj2 : j < q.length := by simpa using hj
    have ih := loN_flip q j m hj2 hm
    show b.toNat + 256 * loN (q.set j (flB q[j] m)) = (b.toNat + 256 * loN q) ^^^ 2 ^ (8 * (j + 1) + m)
    rw [ih, add_xor b.toNat_lt, add_xor b.toNat_lt, xor_pow, ← Nat.xor_assoc, show 8 * (j + 1) + m = (8 * j + m) + 8 by omega, Nat.pow_add 2 (8 * j + m) 8]
/-- the bits of a pattern below a place are flipped -/
def Flp (p q : List UInt8) (pat t k : Nat) : Prop := q.length = p.length ∧ ∃ E, loN q = loN p ^^^ E ∧ 2147483648 * E = (pat % 2 ^ k) * 2 ^ t
theorem Flp.start (p : List UInt8) (pat t : Nat) : Flp p p pat t 0 := ⟨rfl, 0, by rw [Nat.xor_zero], by rw [Nat.pow_zero, Nat.mod_one]; omega⟩
theorem mod_succ (pat k : Nat) : pat % 2 ^ (k + 1) = pat % 2 ^ k + 2 ^ k * (pat / 2 ^ k % 2) := by rw [Nat.pow_succ, Nat.mod_mul]
theorem Flp.skip {p q : List UInt8} {pat t k : Nat} (h : Flp p q pat t k) (h0 : pat / 2 ^ k % 2 = 0) : Flp p q pat t (k + 1) := by
  obtain ⟨h1, E, h2, h3⟩ := h
  exact ⟨h1, E, h2, by rw [mod_succ, h0, Nat.mul_zero, Nat.add_zero]; exact h3⟩
theorem Flp.flip {p q : List UInt8} {pat t k i : Nat} (h : Flp p q pat t k) (h1 : pat / 2 ^ k % 2 = 1) (hi : i + 31 = t + k) (hj : i / 8 < q.length) : Flp p (q.set (i / 8) (flB q[i / 8] (i % 8))) pat t (k + 1) := by
  obtain ⟨hl, E, h2, h3⟩ := h
  have hE : E < 2 ^ i := by
    have a1 : pat % 2 ^ k < 2 ^ k := Nat.mod_lt _ (Nat.two_pow_pos k)
    have a2 : (pat % 2 ^ k) * 2 ^ t < 2 ^ k * 2 ^ t := Nat.mul_lt_mul_of_pos_right a1 (Nat.two_pow_pos t)
    rw [← h3, ← Nat.pow_add, show k + t = 31 + i by omega, Nat.pow_add, show (2 : Nat) ^ 31 = 2147483648 from rfl] at a2
    exact Nat.lt_of_mul_lt_mul_left a2
  have hx : E ^^^ 2 ^ i = E + 2 ^ i := by have := add_xorN (b := 1) hE; rw [Nat.one_mul, Nat.mul_one] at this; exact this.symm
  refine ⟨by rw [List.length_set]; exact hl, E + 2 ^ i, ?_, ?_⟩
  · rw [loN_flip q _ _ hj (by omega), h2, show 8 * (i / 8) + i % 8 = i by omega, Nat.xor_assoc, hx]
  · rw [mod_succ, h1, Nat.mul_one, Nat.mul_add, h3, Nat.add_mul, ← Nat.pow_add 2 k t, show k + t = 31 + i by omega, Nat.pow_add, show (2 : Nat) ^ 31 = 2147483648 from rfl]
/-- what a flipped image is: no image -/
theorem Flp.bad {p q : List UInt8} {pat t : Nat} (h : Flp p q pat t 32) (hp : pat < 4294967296) (h0 : pat ≠ 0) (h4 : 4 ≤ p.length) (ho : opOk p = true) (ht : t < 8 * p.length + 31) : opOk q = false := by
  obtain ⟨hl, E, h2, h3⟩ := h
  rw [show (2 : Nat) ^ 32 = 4294967296 from rfl, Nat.mod_eq_of_lt hp] at h3
  obtain ⟨W, s, rfl, hW, hW0, hs⟩ := burst_form h3 hp h0
  exact damage hl h4 ho h2 hW hW0 (by omega)
end Go.Proofs.YtecklnobgfahfaaGreatDoor
namespace Go.Proofs.YtecklnobgfahfaaGreatDoor
open Go.RowKit
set_option linter.unusedVariables false
set_option linter.unusedSimpArgs false
theorem pat_bit {pat k : Nat} (hp : pat < 4294967296) : bits .and .u32 ((pat : Int) / 2 ^ k) 1 = ((pat / 2 ^ k % 2 : Nat) : Int) := by
  have e : (pat : Int) / 2 ^ k = ((pat / 2 ^ k : Nat) : Int) := by rw [Int.natCast_ediv, Int.natCast_pow]; rfl
  have hl : pat / 2 ^ k < 4294967296 := Nat.lt_of_le_of_lt (Nat.div_le_self _ _) hp
  rw [e, u32_and _ 1 (Int.natCast_nonneg _) (by omega) (by omega) (by omega), Int.toNat_natCast, show (1 : Int).toNat = 1 from rfl, Nat.and_one_is_mod]
theorem flB_val {b : UInt8} {m : Nat} (h : m < 8) : bits .xor .u8 ((b.toNat : Nat) : Int) (2 ^ m % 256) = (((flB b m).toNat : Nat) : Int) := by
  have hb := b.toNat_lt
  rw [flB_nat h]
  have hm : (2 : Nat) ^ m < 2 ^ 8 := Nat.pow_lt_pow_right (by decide) h
  have e : (2 : Int) ^ m % 256 = ((2 ^ m : Nat) : Int) := by
    have e2 : (2 : Int) ^ m = ((2 ^ m : Nat) : Int) := by rw [Int.natCast_pow]; rfl
    rw [e2]; generalize 2 ^ m = P at hm ⊢; omega
  rw [e, u8_xor_nat _ _ (by omega) hm]
/-- the error, or the bytes with the pattern's bits flipped -/
def FlipPost (bs : List UInt8) (bit : Int) (pat t : Nat) (w : World) (e : Ending) (w' : World) : Prop := Below w.heap.size w w' ∧
      (e = .returned (.tuple #[.slice none 0 0, .int .i64 2]) ∨ ∃ v D, e = .returned (.tuple #[v, .int .i64 0]) ∧ BsNew D w v w' ∧ Flp bs D pat t 32 ∧ -31 ≤ bit ∧ bit < 8 * (bs.length : Int))
theorem FlipPost.err {bs : List UInt8} {bit : Int} {pat t : Nat} {w w' : World} (h : Below w.heap.size w w') : FlipPost bs bit pat t w (.returned (.tuple #[.slice none 0 0, .int .i64 2])) w' := ⟨h, .inl rfl⟩
theorem FlipPost.ok {bs D : List UInt8} {bit : Int} {pat t n gb cap : Nat} {w w' : World} (h : Below w.heap.size w w') (hn : bs.length = n) (ho : w'.ownsRow w.heap.size 5 1 (.slice (some ⟨gb, 0, none⟩) n cap) n (D.map u8c)) (hf : Flp bs D pat t 32) (h1 : -31 ≤ bit ∧ bit < 8 * (n : Int)) :
    FlipPost bs bit pat t w (.returned (.tuple #[.slice (some ⟨gb, 0, none⟩) n cap, .int .i64 0])) w' := by
  refine ⟨h, .inr ⟨_, D, rfl, ?_, hf, h1.1, by rw [hn]; exact h1.2⟩⟩
  have hl : D.length = n := hf.1.trans hn
  rw [← hl] at ho ⊢
  exact BsNew.of_own ho h
set_option maxRecDepth 100000 in
set_option maxHeartbeats 8000000 in
theorem flip_any (g o c : Nat) (bs : List UInt8) (bit : Int) (pat : Nat) (w : World) (h : BsA w g o bs) (hc : bs.length ≤ c) (hm : c ≤ maxLen) (hN : bs.length ≤ 1000000) (h0 : pat ≠ 0) (hp : pat < 4294967296) (hb : -9223372036854775808 ≤ bit ∧ bit ≤ 9223372036854775807) :
    Calls Tryz.prog 13 #[.slice (some ⟨g, o, none⟩) bs.length c, .int .i64 bit, .int .u32 (pat : Int)] w (FlipPost bs bit pat (bit + 31).toNat w) := by
  have hcl := cloneO_any g o c bs w h hc hm (by omega)
  obtain ⟨t, ht⟩ : ∃ t : Nat, (bit + 31).toNat = t := ⟨_, rfl⟩
  rw [ht]
  have HT := Lib.hid ht
  clear ht
  obtain ⟨n, hn⟩ : ∃ n, bs.length = n := ⟨_, rfl⟩
  rw [hn] at hcl hc hN ⊢
  have HN := Lib.hid hn
  have HP := Lib.hid hp
  unfold maxLen at hm
  have e0 : ((pat : Int) == 0) = false := beq_eq_false_iff_ne.2 (by omega)
  clear h hn h0
  go_enter Tryz.func13, Tryz.ntmps13
  go_wp2_with fail
  refine hcl.mono ?_
  rintro e w1 ⟨v, rfl, ⟨gb, cap, hv, hcap, hcm, hgb, hba, hbl⟩, hown⟩
  subst hv
  rw [HN.out] at hcap hown ⊢
  have B1 := Lib.hid hbl
  have HOWN := Lib.hid hown
  have HGB := Lib.hid hgb
  clear hcl hba hbl hown hgb
  by_cases h1 : bit < -31
  · go_wp2
    go_ret2
    exact .err B1.out
  by_cases h2 : 8 * (n : Int) ≤ bit
  · go_wp2
    go_ret2
    exact .err B1.out
  have hts : bit + 31 = (t : Int) := by have := HT.out; omega
  have HTS := Lib.hid hts
  have HST := Lib.hid (Flp.start bs pat t)
  have hrg : Hid (-31 ≤ bit ∧ bit < 8 * (n : Int)) := ⟨by omega, by omega⟩
  have h8n : (8 * (n : Int)) ≤ 8000000 := by omega
  clear hts
  go_wp2
  go_loopw [25] (fun iv wr => ∃ (k : Nat) (D : List UInt8), k ≤ 32 ∧ iv = .int .i64 (k : Int) ∧ Hid (wr.ownsRow w.heap.size 5 1 (.slice (some ⟨gb, 0, none⟩) n cap) n (D.map u8c)) ∧ Hid (Below w.heap.size w wr) ∧ Hid (Flp bs D pat t k)) (fun iv _ => 32 - (intOf iv).toNat)
  case atStart => exact ⟨0, bs, by omega, rfl, HOWN, B1, HST⟩
  case round =>
    obtain ⟨k, D, hk, rfl, hown, hbl, hfl⟩ := hrel
    by_cases hlt : k < 32
    · have hand := pat_bit (k := k) HP.out
      have hki : (k : Int) < 32 := by omega
      rcases Nat.mod_two_eq_zero_or_one (pat / 2 ^ k) with hz | hz
      · rw [hz] at hand
        have HF := Lib.hid (hfl.out.skip hz)
        clear hz hfl
        go_wp2
        go_roundw
        case rel => exact ⟨k + 1, D, hlt, by first | rfl | go_num, hown, hbl, HF⟩
        case measure => simp [intOf]; omega
      · rw [hz] at hand
        have HZ := Lib.hid hz
        clear hz
        by_cases h3 : bit + (k : Int) < 0
        · go_wp2
          go_ret2
          exact .err hbl.out
        · obtain ⟨i, hi⟩ : ∃ i : Nat, bit + (k : Int) = (i : Int) := ⟨(bit + (k : Int)).toNat, by omega⟩
          have hik : i + 31 = t + k := by have := HTS.out; omega
          have HIK := Lib.hid hik
          clear hik h3
          by_cases h4 : 8 * (n : Int) ≤ (i : Int)
          · go_wp2
            go_ret2
            exact .err hbl.out
          · have hDl : D.length = n := hfl.out.1.trans HN.out
            have hj : i / 8 < D.length := by omega
            have hrow := hown.out
            have c0 : wr.cell? ⟨gb, i / 8, none⟩ = some (.int .u8 ((D[i / 8].toNat : Nat) : Int)) := by
              have := hown.out.cells (g := gb) rfl (i / 8) (u8c D[i / 8]) (by rw [List.getElem?_map, List.getElem?_eq_getElem hj]; rfl)
              rwa [Addr.add_lit, Nat.zero_add] at this
            have f0 : wr.frozen? ⟨gb, i / 8, none⟩ = false := hown.out.frozenAt _
            have HFL := Lib.hid (hfl.out.flip HZ.out HIK.out hj)
            obtain ⟨b, hb0⟩ : ∃ b, D[i / 8] = b := ⟨_, rfl⟩
            obtain ⟨j, hjj⟩ : ∃ j, i / 8 = j := ⟨_, rfl⟩
            obtain ⟨m, hmm⟩ : ∃ m, i % 8 = m := ⟨_, rfl⟩
            have hm8 : m < 8 := by omega
            have hval := flB_val (b := b) hm8
            have hji : (i : Int) / 8 = (j : Int) := by omega
            have hmi : (i : Int) % 8 = (m : Int) := by omega
            have hjn : (j : Int) < (n : Int) := by omega
            rw [hb0, hjj, hmm] at HFL
            rw [hb0] at c0
            rw [hjj] at c0 f0
            have HFL2 := HFL
            obtain ⟨M, hM⟩ : ∃ M, D.set j (flB b m) = M := ⟨_, rfl⟩
            have HMM := Lib.hid hM
            obtain ⟨u, hu⟩ : ∃ u, flB b m = u := ⟨_, rfl⟩
            rw [hu] at hval
            have HU := Lib.hid hu
            obtain ⟨x, hx⟩ : ∃ x : Nat, b.toNat = x := ⟨_, rfl⟩
            rw [hx] at c0 hval
            have HST2 : Hid ((wr.setCell ⟨gb, j, none⟩ (.int .u8 ((u.toNat : Nat) : Int))).ownsRow w.heap.size 5 1 (.slice (some ⟨gb, 0, none⟩) n cap) n (M.map u8c) ∧ wr.grownBy (wr.setCell ⟨gb, j, none⟩ (.int .u8 ((u.toNat : Nat) : Int))) (some gb)) := by
              have := hown.out.stored j (u8c u)
              rw [← hM, ← hu, List.map_set]
              rw [← hu] at this
              exact this
            have HVAL := Lib.hid hval
            have HFL3 : Hid (Flp bs M pat t (k + 1)) := by rw [← hM]; exact HFL.out
            clear hM hu hx hb0 hjj hmm hj hDl hrow hval HFL2 HFL
            go_upto_region 13 with fail
            refine wp_region_still_tail 10 (by kernel_rfl) (by kernel_rfl) ?_
            simp only [List.take_succ_cons, List.take_zero, List.drop_succ_cons, List.drop_zero]
            change wpStill _ _ wr.drew _ _ _
            have c1 : wr.drew.cell? ⟨gb, j, none⟩ = some (.int .u8 (x : Int)) := c0
            obtain ⟨W3, hW3⟩ : ∃ W3, wr.drew = W3 := ⟨_, rfl⟩
            rw [hW3] at c1
            rw [hW3]
            have hwj : IntKind.i64.wrap (j : Int) = (j : Int) := by rw [IntKind.wrap_i64]; omega
            have hwm : IntKind.i64.wrap (m : Int) = (m : Int) := by rw [IntKind.wrap_i64]; omega
            have htm : ((i : Nat) : Int).tmod 8 = (m : Int) := by rw [Int.tmod_eq_emod_of_nonneg (by omega)]; exact hmi
            have hm8i : (m : Int) ≤ 8 := by omega
            repeat still_step
            refine wpStill_nil ?_
            change wpList _ _ _ _ _ wr.drew
            have f1 : wr.drew.frozen? ⟨gb, j, none⟩ = false := f0
            have c2 : wr.drew.cell? ⟨gb, j, none⟩ = some (.int .u8 (x : Int)) := c0
            clear hwj hwm htm hW3 c1 c0 f0
            go_wp2
            rw [HVAL.out]
            refine ⟨⟨k + 1, M, hlt, by first | rfl | go_num, Lib.hid (HST2.out.1.drew), Lib.hid ((hbl.out.grown HST2.out.2 hbl.out.size (fun b hb => by cases hb; exact HGB.out)).drew), HFL3⟩, by simp [intOf]; omega⟩
    · have hk32 : k = 32 := by omega
      subst hk32
      go_wp2
      go_ret2
      exact .ok hbl.out HN.out hown.out hfl.out hrg.out
end Go.Proofs.YtecklnobgfahfaaGreatDoor
