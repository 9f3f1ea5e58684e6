/-
  Plain words for the line of a fix; the words of the kinds on both sides.
-/
import Derived.Test.YtempiooclhmeoaaGreatDoorFixP
import Derived.Test.YtempiooclhmeoaaGreatDoorAngTxP
import Derived.Test.YtempiooclhmeoaaGreatDoorAltLaw
namespace Go.Proofs.YtempiooclhmeoaaGreatDoor
open Go.RowKit
set_option linter.unusedVariables false
set_option linter.unusedSimpArgs false

theorem nameB_len {l : List UInt8} (h : nameB l 6 = true) : l.length ≤ 6 := by
  unfold nameB at h
  simp only [Bool.and_eq_true, decide_eq_true_eq] at h
  omega
theorem identE_len {l : List UInt8} {k : Nat} (h : identE l k = 0) : l.length ≤ 6 := by
  unfold identE at h
  split at h
  · rename_i h2; rw [Bool.and_eq_true] at h2; exact nameB_len h2.1
  · cases h
theorem locE_len {l : List UInt8} {k : Nat} (h : locE l k = 0) : l.length ≤ 6 := by
  unfold locE at h
  split at h
  · rename_i h2
    simp only [Bool.or_eq_true, Bool.and_eq_true] at h2
    rcases h2 with ⟨_, h2⟩ | ⟨_, h2⟩
    · exact nameB_len h2
    · unfold shortB at h2; rw [Bool.and_eq_true, beq_iff_eq] at h2; omega
  · cases h
/-- what a valid fix is -/
theorem fixE_ok {f : Fx} (h : fixE f = 0) : (1 ≤ f.kd ∧ f.kd ≤ 6) ∧ identE f.id f.kd = 0 ∧ locE f.rg f.kd = 0 ∧ posB f.lat f.lon = true ∧ elE f.kd f.el = 0 ∧ raE f.kd f.ra = 0 := by
  unfold fixE at h
  split at h
  · cases h
  · split at h
    · cases h
    · split at h
      · cases h
      · split at h
        · cases h
        · rename_i h1 h2 h3 h4
          split at h
          · rename_i h5; exact absurd h h5
          · rename_i h5
            exact ⟨by omega, by simpa using h2, by simpa using h3, by simpa using h4, by simpa using h5, h⟩
theorem kw_lit (w : World) (k : Nat) (h : 1 ≤ k ∧ k ≤ 6) : (w.alloc (.cells #[.string ⟨#[87, 65, 89, 80, 79, 73, 78, 84]⟩, .string ⟨#[86, 79, 82]⟩, .string ⟨#[68, 77, 69]⟩, .string ⟨#[78, 68, 66]⟩, .string ⟨#[65, 73, 82, 80, 79, 82, 84]⟩, .string ⟨#[82, 85, 78, 87, 65, 89]⟩] 9)).cell? ⟨w.heap.size, k - 1, none⟩ = some (.string (sb (kindWord k))) := by
  obtain ⟨h1, h2⟩ := h
  match k, h1, h2 with
  | 1, _, _ => simp [go_sem]; rfl
  | 2, _, _ => simp [go_sem]; rfl
  | 3, _, _ => simp [go_sem]; rfl
  | 4, _, _ => simp [go_sem]; rfl
  | 5, _, _ => simp [go_sem]; rfl
  | 6, _, _ => simp [go_sem]; rfl
theorem kindWord_len (k : Nat) : (kindWord k).length ≤ 8 := by
  unfold kindWord
  rw [List.getD_eq_getElem?_getD]
  match k - 1 with
  | 0 | 1 | 2 | 3 | 4 | 5 => decide
  | n + 6 => exact Nat.zero_le _
theorem kwl_any (w : World) : Calls Tryz.prog 51 #[] w fun e w' => e = .returned (.slice (some ⟨w.heap.size, 0, none⟩) 6 6) ∧ w' = w.alloc (.cells #[.string ⟨#[87, 65, 89, 80, 79, 73, 78, 84]⟩, .string ⟨#[86, 79, 82]⟩, .string ⟨#[68, 77, 69]⟩, .string ⟨#[78, 68, 66]⟩, .string ⟨#[65, 73, 82, 80, 79, 82, 84]⟩, .string ⟨#[82, 85, 78, 87, 65, 89]⟩] 9) := by
  go_enter Tryz.func51, Tryz.ntmps51
  go_wp2
  go_ret
  exact ⟨rfl, rfl⟩
theorem rkwl_any (w : World) : Calls Tryz.prog 55 #[] w fun e w' => e = .returned (.slice (some ⟨w.heap.size, 0, none⟩) 6 6) ∧ w' = w.alloc (.cells #[.string ⟨#[87, 65, 89, 80, 79, 73, 78, 84]⟩, .string ⟨#[86, 79, 82]⟩, .string ⟨#[68, 77, 69]⟩, .string ⟨#[78, 68, 66]⟩, .string ⟨#[65, 73, 82, 80, 79, 82, 84]⟩, .string ⟨#[82, 85, 78, 87, 65, 89]⟩] 9) := by
  go_enter Tryz.func55, Tryz.ntmps55
  go_wp2
  go_ret
  exact ⟨rfl, rfl⟩
def TextFPost (f : Fx) (w : World) (e : Ending) (w' : World) : Prop := ∃ t : ByteArray, e = .returned (.tuple #[.string t, .int .i64 (fixE f)]) ∧ Hid (bl t = fxOut f) ∧ Below w.heap.size w w'
theorem TextFPost.mk {f : Fx} {w w' : World} {t : ByteArray} {er : Int} (h1 : fixE f = er) (h2 : bl t = fxOut f) (hb : Below w.heap.size w w') : TextFPost f w (.returned (.tuple #[.string t, .int .i64 er])) w' := by
  subst h1; exact ⟨t, rfl, h2, hb⟩
/-- the line, but for its last field -/
def fxHead (f : Fx) : List UInt8 := kindWord f.kd ++ 32 :: (f.id ++ 32 :: (f.rg ++ 32 :: posOut f.lat f.lon))
theorem fxOut_ok {f : Fx} (h : fixE f = 0) : fxOut f = fxHead f ++ ((if elevB f.kd then 32 :: altOut f.el else []) ++ (if navB f.kd then 32 :: distOut f.ra else [])) := by
  unfold fxOut; rw [if_pos h]; unfold fxLine fxHead; simp only [List.append_assoc, List.cons_append]
theorem fxOut_bad {f : Fx} (h : fixE f ≠ 0) : fxOut f = [] := by unfold fxOut; rw [if_neg h]
theorem posOut_len (a b : Int) : (posOut a b).length ≤ 19 := by
  unfold posOut
  split
  · rw [List.length_append]
    have l1 : (latOut a).length ≤ 9 := by unfold latOut; split <;> first | (rw [sgnText_len]; omega) | simp
    have l2 : (lonOut b).length ≤ 10 := by unfold lonOut; split <;> first | (rw [sgnText_len]; omega) | simp
    omega
  · simp
theorem fxHead_len {f : Fx} (h1 : f.id.length ≤ 6) (h2 : f.rg.length ≤ 6) : (fxHead f).length ≤ 60 := by
  unfold fxHead
  have := kindWord_len f.kd
  have := posOut_len f.lat f.lon
  simp only [List.length_append, List.length_cons]
  omega
theorem join4 (a b c d : List UInt8) : Lib.join [a, b, c, d] [32] = a ++ 32 :: (b ++ 32 :: (c ++ 32 :: d)) := by
  rw [Lib.join_cons]; unfold Lib.joinTail; simp
end Go.Proofs.YtempiooclhmeoaaGreatDoor
