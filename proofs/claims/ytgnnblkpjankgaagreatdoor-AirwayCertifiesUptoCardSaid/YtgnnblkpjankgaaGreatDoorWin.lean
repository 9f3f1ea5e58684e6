/-
  Contracts: the texts of altitude windows on both sides.
-/
import Derived.Test.YtgnnblkpjankgaaGreatDoorAlt
namespace Go.Proofs.YtgnnblkpjankgaaGreatDoor
open Go.RowKit
set_option linter.unusedVariables false
set_option linter.unusedSimpArgs false

/-- a block of two cells that the call laid, read in a later world -/
theorem boxed2 {w w1 : World} {a b : Value} {t : TypeId} (h : Below (w.alloc (.cells #[a, b] t)).heap.size (w.alloc (.cells #[a, b] t)) w1) :
    w1.cell? ⟨w.heap.size, 0, none⟩ = some a ∧ w1.cell? ⟨w.heap.size, 1, none⟩ = some b :=
  ⟨(h.cell (p := ⟨w.heap.size, 0, none⟩) (by simp)).trans (by simp [go_sem]), (h.cell (p := ⟨w.heap.size, 1, none⟩) (by simp)).trans (by simp [go_sem])⟩
theorem below_box {w w1 : World} {o : Obj} (h : Below (w.alloc o).heap.size (w.alloc o) w1) : Below w.heap.size w w1 :=
  ((Below.refl _ _).alloc (Nat.le_refl _) o).trans (h.mono (by simp))

def winBad (lo hi : Int) : Prop := lo < -200000 ∨ hi < lo ∨ 6000000 < hi
instance (lo hi : Int) : Decidable (winBad lo hi) := by unfold winBad; infer_instance
def winText (lo hi : Int) : List UInt8 :=
  if lo = -200000 ∧ hi = 6000000 then [45] else if lo = hi then altOut lo else if hi = 6000000 then altOut lo ++ [43] else if lo = -200000 then altOut hi ++ [45] else altOut lo ++ 58 :: altOut hi
def winOut (lo hi : Int) : List UInt8 := if winBad lo hi then [] else winText lo hi
def winErr (lo hi : Int) : Int := if winBad lo hi then 1 else 0

set_option maxHeartbeats 400000 in
theorem winText_bad (lo hi : Int) (w : World) (h : winBad lo hi) :
    Calls Tryz.prog 51 #[.agg #[.int .i64 lo, .int .i64 hi]] w fun e w' => ∃ t, e = .returned (.tuple #[.string t, .int .i64 1]) ∧ Hid (bl t = []) ∧ Below w.heap.size w w' := by
  have h' : lo < -200000 ∨ (-200000 ≤ lo ∧ hi < lo) ∨ (-200000 ≤ lo ∧ lo ≤ hi ∧ 6000000 < hi) := by unfold winBad at h; omega
  clear h
  rcases h' with h | ⟨h, h2⟩ | ⟨h, h2, h3⟩
  all_goals
    go_enter Tryz.func51, Tryz.ntmps51
    go_wp2
    go_ret2
    exact ⟨_, rfl, rfl, (Below.refl _ _).alloc (Nat.le_refl _) _⟩

set_option maxHeartbeats 1000000 in
theorem winText_ok (lo hi : Int) (w : World) (E : Env w) (h : ¬ winBad lo hi) :
    Calls Tryz.prog 51 #[.agg #[.int .i64 lo, .int .i64 hi]] w fun e w' => ∃ t, e = .returned (.tuple #[.string t, .int .i64 0]) ∧ Hid (bl t = winText lo hi) ∧ Below w.heap.size w w' := by
  have l1 : -200000 ≤ lo := by unfold winBad at h; omega
  have l2 : lo ≤ hi := by unfold winBad at h; omega
  have l3 : hi ≤ 6000000 := by unfold winBad at h; omega
  clear h
  have h' : (Hid (winText lo hi = [45]) ∧ lo ≤ -200000 ∧ 6000000 ≤ hi) ∨ (Hid (winText lo hi = altOut lo) ∧ lo ≤ -200000 ∧ hi ≤ lo) ∨ (Hid (winText lo hi = altOut lo) ∧ -200000 < lo ∧ hi ≤ lo) ∨ (Hid (winText lo hi = altOut lo ++ [43]) ∧ -200000 < lo ∧ lo < hi ∧ 6000000 ≤ hi) ∨ (Hid (winText lo hi = altOut hi ++ [45]) ∧ lo ≤ -200000 ∧ lo < hi ∧ hi < 6000000) ∨ (Hid (winText lo hi = altOut lo ++ 58 :: altOut hi) ∧ -200000 < lo ∧ lo < hi ∧ hi < 6000000) := by
    unfold winText Hid
    by_cases a : lo = -200000 ∧ hi = 6000000
    · exact .inl ⟨by rw [if_pos a], by omega, by omega⟩
    · by_cases b : lo = hi
      · by_cases c : lo = -200000
        · exact .inr (.inl ⟨by rw [if_neg a, if_pos b], by omega, by omega⟩)
        · exact .inr (.inr (.inl ⟨by rw [if_neg a, if_pos b], by omega, by omega⟩))
      · by_cases c : hi = 6000000
        · exact .inr (.inr (.inr (.inl ⟨by rw [if_neg a, if_neg b, if_pos c], by omega, by omega, by omega⟩)))
        · by_cases d : lo = -200000
          · exact .inr (.inr (.inr (.inr (.inl ⟨by rw [if_neg a, if_neg b, if_neg c, if_pos d], by omega, by omega, by omega⟩))))
          · exact .inr (.inr (.inr (.inr (.inr ⟨by rw [if_neg a, if_neg b, if_neg c, if_neg d], by omega, by omega, by omega⟩))))
  rcases h' with ⟨hw, c1, c2⟩ | ⟨hw, c1, c2⟩ | ⟨hw, c1, c2⟩ | ⟨hw, c1, c2, c3⟩ | ⟨hw, c1, c2, c3⟩ | ⟨hw, c1, c2, c3⟩

  all_goals
    go_enter Tryz.func51, Tryz.ntmps51
    go_wp2_with fail
    refine (altText_any lo _ (E.alloc _)).mono ?_
    rintro e w1 ⟨t1, rfl, ht1, hs1, hb1⟩
    obtain ⟨k0, k1⟩ := boxed2 hb1
    go_wp2_with fail
    refine (altText_any hi _ ((E.alloc _).below hb1)).mono ?_
    rintro e w2 ⟨t2, rfl, ht2, hs2, hb2⟩
    have hb := Below.then_ hb1 hb2; obtain ⟨k2, k3⟩ := boxed2 hb
    go_wp2
    go_ret2
    refine ⟨_, rfl, ?_, below_box hb⟩
    unfold Hid
    rw [hw.out]
    first
    | (show bl ⟨#[45]⟩ = [45]; rfl)
    | (show bl t1 = altOut lo; exact ht1.out)
    | (show bl (t1 ++ ⟨#[43]⟩) = _; rw [bl_append, ht1.out]; rfl)
    | (show bl (t2 ++ ⟨#[45]⟩) = _; rw [bl_append, ht2.out]; rfl)
    | (show bl (t1 ++ ⟨#[58]⟩ ++ t2) = _; rw [bl_append, bl_append, ht1.out, ht2.out, bl_mk, List.append_assoc]; rfl)

/-- WindowText of every window -/
theorem winText_any (lo hi : Int) (w : World) (E : Env w) :
    Calls Tryz.prog 51 #[.agg #[.int .i64 lo, .int .i64 hi]] w fun e w' => ∃ t, e = .returned (.tuple #[.string t, .int .i64 (winErr lo hi)]) ∧ Hid (bl t = winOut lo hi) ∧ Below w.heap.size w w' := by
  by_cases h : winBad lo hi
  · have h1 : winErr lo hi = 1 := if_pos h
    have h2 : winOut lo hi = [] := if_pos h
    rw [h1, h2]
    exact winText_bad lo hi w h
  · have h1 : winErr lo hi = 0 := if_neg h
    have h2 : winOut lo hi = winText lo hi := if_neg h
    rw [h1, h2]
    exact winText_ok lo hi w E h
end Go.Proofs.YtgnnblkpjankgaaGreatDoor
