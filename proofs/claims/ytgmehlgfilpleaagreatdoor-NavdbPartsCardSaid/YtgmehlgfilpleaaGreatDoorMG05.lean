/-
  Several texts as one.
-/
import Derived.Test.YtgmehlgfilpleaaGreatDoorMG02
import Derived.Deep.CutRange
import Derived.Deep.DeepCutAuto
namespace Go.Proofs.YtgmehlgfilpleaaGreatDoor
open Go.RowKit
set_option linter.unusedVariables false
set_option linter.unusedSimpArgs false

set_option maxHeartbeats 400000 in
theorem ranged_any (a : Int) (w : World) :
    Calls Tryz.prog 362 #[.int .i64 a] w fun e w' => e = .returned (.bool (rangedB a)) ∧ w = w' := by
  have h : (a < -200000 ∧ Hid (rangedB a = false)) ∨ (-200000 ≤ a ∧ a ≤ 6000000 ∧ Hid (rangedB a = true)) ∨ (-200000 ≤ a ∧ 6000000 < a ∧ Hid (rangedB a = false)) := by
    by_cases h1 : a < -200000
    · exact .inl ⟨h1, rangedB_no (.inl h1)⟩
    · by_cases h2 : a ≤ 6000000
      · exact .inr (.inl ⟨by omega, h2, rangedB_yes (by omega) h2⟩)
      · exact .inr (.inr ⟨by omega, by omega, rangedB_no (by omega)⟩)
  rcases h with ⟨h1, hr⟩ | ⟨h1, h2, hr⟩ | ⟨h1, h2, hr⟩
  all_goals
    go_enter Tryz.func362, Tryz.ntmps362
    go_wp2
    go_ret
    exact ⟨ret_bool (by first | exact hr.out.symm | exact (decide_eq_true h2).trans hr.out.symm | exact (decide_eq_false (by omega)).trans hr.out.symm), rfl⟩

/-! ### the reference's side -/
theorem cutAt_spec (c : UInt8) (l : List UInt8) : ((cutAt c l).2.2 = true ∧ l = (cutAt c l).1 ++ c :: (cutAt c l).2.1 ∧ c ∉ (cutAt c l).1) ∨ ((cutAt c l).2.2 = false ∧ c ∉ l ∧ (cutAt c l).1 = l ∧ (cutAt c l).2.1 = []) := by
  induction l with
  | nil => exact .inr ⟨rfl, by simp, rfl, rfl⟩
  | cons x l ih =>
    unfold cutAt
    by_cases h : x = c
    · subst h
      rw [if_pos rfl]
      exact .inl ⟨rfl, rfl, by simp⟩
    · rw [if_neg h]
      rcases ih with ⟨h1, h2, h3⟩ | ⟨h1, h2, h3, h4⟩
      · exact .inl ⟨h1, by simp only [List.cons_append, List.cons.injEq, true_and]; exact h2, by simp only [List.mem_cons, not_or]; exact ⟨Ne.symm h, h3⟩⟩
      · exact .inr ⟨h1, by simp only [List.mem_cons, not_or]; exact ⟨Ne.symm h, h2⟩, by simp only [h3], h4⟩

/-- two blocks of two cells that the call laid, read in a later world -/
theorem boxed22 {w w1 : World} {a b c d : Value} {t u : TypeId} (h : Below ((w.alloc (.cells #[a, b] t)).alloc (.cells #[c, d] u)).heap.size ((w.alloc (.cells #[a, b] t)).alloc (.cells #[c, d] u)) w1) :
    (w1.cell? ⟨w.heap.size, 0, none⟩ = some a ∧ w1.cell? ⟨w.heap.size, 1, none⟩ = some b ∧ w1.cell? ⟨w.heap.size + 1, 0, none⟩ = some c ∧ w1.cell? ⟨w.heap.size + 1, 1, none⟩ = some d) ∧
    (w1.frozen? ⟨w.heap.size, 0, none⟩ = false ∧ w1.frozen? ⟨w.heap.size, 1, none⟩ = false ∧ w1.frozen? ⟨w.heap.size + 1, 0, none⟩ = false ∧ w1.frozen? ⟨w.heap.size + 1, 1, none⟩ = false) ∧ w.heap.size + 1 < w1.heap.size ∧ Below w.heap.size w w1 := by
  have hs : w.heap.size + 1 < ((w.alloc (.cells #[a, b] t)).alloc (.cells #[c, d] u)).heap.size := by simp
  refine ⟨⟨?_, ?_, ?_, ?_⟩, ⟨?_, ?_, ?_, ?_⟩, Nat.lt_of_lt_of_le hs h.size, below_box (o := .cells #[a, b] t) (below_box (o := .cells #[c, d] u) h)⟩
  · exact (h.cell (p := ⟨w.heap.size, 0, none⟩) (by simp; omega)).trans (by simp [go_sem])
  · exact (h.cell (p := ⟨w.heap.size, 1, none⟩) (by simp; omega)).trans (by simp [go_sem])
  · exact (h.cell (p := ⟨w.heap.size + 1, 0, none⟩) (by simp)).trans (by simp [go_sem])
  · exact (h.cell (p := ⟨w.heap.size + 1, 1, none⟩) (by simp)).trans (by simp [go_sem])
  · exact (h.frozen (p := ⟨w.heap.size, 0, none⟩) (by simp; omega)).trans (by simp [go_sem])
  · exact (h.frozen (p := ⟨w.heap.size, 1, none⟩) (by simp; omega)).trans (by simp [go_sem])
  · exact (h.frozen (p := ⟨w.heap.size + 1, 0, none⟩) (by simp)).trans (by simp [go_sem])
  · exact (h.frozen (p := ⟨w.heap.size + 1, 1, none⟩) (by simp)).trans (by simp [go_sem])

theorem boxed2f {w w1 : World} {a b : Value} {t : TypeId} (h : Below (w.alloc (.cells #[a, b] t)).heap.size (w.alloc (.cells #[a, b] t)) w1) :
    w1.frozen? ⟨w.heap.size, 0, none⟩ = false ∧ w1.frozen? ⟨w.heap.size, 1, none⟩ = false :=
  ⟨(h.frozen (p := ⟨w.heap.size, 0, none⟩) (by simp)).trans (by simp [go_sem]), (h.frozen (p := ⟨w.heap.size, 1, none⟩) (by simp)).trans (by simp [go_sem])⟩
theorem frozen_alloc_lt (w : World) (o : Obj) (p : Addr) (h : p.block < w.heap.size) : (w.alloc o).frozen? p = w.frozen? p :=
  World.frozen?_of_block (w := w) (Below.heap_alloc w o p.block h)
/-- the window of a text, of altitudes of any size -/
def winOf (l : List UInt8) (a b : List UInt8) (two : Bool) : Option (Int × Int) :=
  if two then (match altSpec a, altSpec b with | some x, some y => some (x, y) | _, _ => none)
  else if lastIs 43 l then (altSpec l.dropLast).map fun x => (x, 6000000)
  else if lastIs 45 l then (altSpec l.dropLast).map fun x => (-200000, x)
  else (altSpec l).map fun x => (x, x)
def winSpec (l : List UInt8) : Option (Int × Int) :=
  if l = [45] then some (-200000, 6000000) else winOf l (cutAt 58 l).1 (cutAt 58 l).2.1 (cutAt 58 l).2.2
theorem winSpec_eq {l a b : List UInt8} {f : Bool} (h : l ≠ [45]) (h2 : cutAt 58 l = (a, b, f)) : winSpec l = winOf l a b f := by
  unfold winSpec; rw [if_neg h, h2]
/-- an altitude that is answered for another one: itself, or both are out of range -/
def Near (n v : Int) : Prop := rangedB n = rangedB v ∧ (rangedB v = true → n = v)
theorem Near.refl (n : Int) : Near n n := ⟨rfl, fun _ => rfl⟩
def WinRes (o : Option (Int × Int)) (lo hi : Int) (ok : Bool) : Prop := match o with
  | none => ok = false
  | some v => ok = true ∧ Near lo v.1 ∧ Near hi v.2
def WinPost (s : ByteArray) (w : World) (e : Ending) (w' : World) : Prop := ∃ lo hi ok, e = .returned (.tuple #[.agg #[.int .i64 lo, .int .i64 hi], .bool ok]) ∧ WinRes (winSpec (bl s)) lo hi ok ∧ Below w.heap.size w w'
theorem winPost {s : ByteArray} {w w' : World} {lo hi : Int} {ok : Bool} {o : Option (Int × Int)} (ho : winSpec (bl s) = o) (h : WinRes o lo hi ok) (hb : Below w.heap.size w w') : WinPost s w (.returned (.tuple #[.agg #[.int .i64 lo, .int .i64 hi], .bool ok])) w' :=
  ⟨lo, hi, ok, rfl, ho ▸ h, hb⟩
theorem altRes_cases {o : Option Int} {n : Int} {ok : Bool} (h : AltRes o n ok) : (ok = false ∧ o = none) ∨ (ok = true ∧ ∃ v, o = some v ∧ Near n v) := by
  cases o with
  | none => exact .inl ⟨h, rfl⟩
  | some v => exact .inr ⟨h.1, v, rfl, h.2⟩
theorem winRes_two {l a b : List UInt8} {n m : Int} {x y : Bool} (h1 : AltRes (altSpec a) n x) (h2 : AltRes (altSpec b) m y) : WinRes (winOf l a b true) n m (x && y) := by
  unfold winOf
  rw [if_pos rfl]
  rcases altRes_cases h1 with ⟨rfl, e1⟩ | ⟨rfl, v, e1, n1⟩
  · rw [e1]; rfl
  · rcases altRes_cases h2 with ⟨rfl, e2⟩ | ⟨rfl, u, e2, n2⟩
    · rw [e1, e2]; rfl
    · rw [e1, e2]; exact ⟨rfl, n1, n2⟩
theorem winRes_up {l a b : List UInt8} {n : Int} {x : Bool} (hl : lastIs 43 l = true) (h1 : AltRes (altSpec l.dropLast) n x) : WinRes (winOf l a b false) n 6000000 x := by
  unfold winOf
  rw [if_neg (by decide), if_pos hl]
  rcases altRes_cases h1 with ⟨rfl, e1⟩ | ⟨rfl, v, e1, n1⟩
  · rw [e1]; rfl
  · rw [e1]; exact ⟨rfl, n1, Near.refl _⟩
theorem winRes_down {l a b : List UInt8} {n : Int} {x : Bool} (hl : lastIs 43 l = false) (hl2 : lastIs 45 l = true) (h1 : AltRes (altSpec l.dropLast) n x) : WinRes (winOf l a b false) (-200000) n x := by
  unfold winOf
  rw [if_neg (by decide), hl, if_neg (by decide), if_pos hl2]
  rcases altRes_cases h1 with ⟨rfl, e1⟩ | ⟨rfl, v, e1, n1⟩
  · rw [e1]; rfl
  · rw [e1]; exact ⟨rfl, Near.refl _, n1⟩
theorem winRes_one {l a b : List UInt8} {n : Int} {x : Bool} (hl : lastIs 43 l = false) (hl2 : lastIs 45 l = false) (h1 : AltRes (altSpec l) n x) : WinRes (winOf l a b false) n n x := by
  unfold winOf
  rw [if_neg (by decide), hl, if_neg (by decide), hl2, if_neg (by decide)]
  rcases altRes_cases h1 with ⟨rfl, e1⟩ | ⟨rfl, v, e1, n1⟩
  · rw [e1]; rfl
  · rw [e1]; exact ⟨rfl, n1, n1⟩

set_option maxHeartbeats 400000 in
theorem window_dash (s : ByteArray) (w : World) (hd : (s.toList == [45]) = true) :
    Calls Tryz.prog 401 #[.string s] w (WinPost s w) := by
  have h : Hid (bl s = [45]) := by unfold Hid; rw [bl_toList, beq_iff_eq] at hd; exact hd
  go_enter Tryz.func401, Tryz.ntmps401
  go_wp2
  refine bodyPost_ret (v := .tuple #[.agg #[.int .i64 (-200000), .int .i64 6000000], .bool true]) (by simp [results, Tryz.results401, go_sem]) rfl ?_
  exact winPost (o := some (-200000, 6000000)) (by unfold winSpec; rw [if_pos h.out]) ⟨rfl, Near.refl _, Near.refl _⟩ (((Below.refl _ _).alloc (Nat.le_refl _) _).alloc (by simp) _)
set_option maxHeartbeats 1000000 in
theorem window_else (s : ByteArray) (w : World) (E : Env w) (hs : s.size ≤ 140737488351232) (hd : (s.toList == [45]) = false) :
    Calls Tryz.prog 401 #[.string s] w (WinPost s w) := by
  have h : Hid (bl s ≠ [45]) := by unfold Hid; rw [bl_toList, beq_eq_false_iff_ne] at hd; exact hd
  go_enter Tryz.func401, Tryz.ntmps401
  go_wp2_with fail
  refine (cut1 s 58 _ ((E.alloc _).alloc _) (by omega)).mono ?_
  rintro e w1 ⟨a, b, f, rfl, hcut, has, hbs, hb1⟩
  have hspec := Lib.hid (winSpec_eq h.out hcut.out)
  obtain ⟨⟨k0, k1, k2, k3⟩, ⟨f0, f1, f2, f3⟩, hsz, hB⟩ := boxed22 hb1
  have E1 := E.below hB
  cases f
  · go_wp2_with fail
    refine (cutSuffix1 s 43 _ (by unfold maxLen; omega)).mono ?_
    rintro e w' ⟨r, g, rfl, hg, hr, hrs, rfl⟩
    cases g
    · go_wp2_with fail
      refine (cutSuffix1 s 45 _ (by unfold maxLen; omega)).mono ?_
      rintro e w' ⟨r2, g2, rfl, hg2, hr2, hrs2, rfl⟩
      cases g2
      · go_wp2_with fail
        refine (altitude_any s _ E1 hs).mono ?_
        rintro e w2 ⟨n, x, rfl, hx0, hb20⟩
        have hx := Lib.hid hx0
        clear hx0
        have hb2 := Below.then_ hb1 hb20
        have E2 := E1.below hb20
        clear k0 k1 k2 k3 f0 f1 f2 f3 hsz hB hb20
        obtain ⟨⟨k0, k1, k2, k3⟩, ⟨f0, f1, f2, f3⟩, hsz, hB⟩ := boxed22 hb2
        have hres := Lib.hid (winRes_one (a := bl a) (b := bl b) hg.out.symm hg2.out.symm hx.out)
        go_wp2
        refine bodyPost_ret (v := .tuple #[.agg #[.int .i64 n, .int .i64 n], .bool x]) (by simp [results, Tryz.results401, go_sem, k0, k1, k2, k3]) rfl ?_
        exact winPost hspec.out hres.out ((hB.setCell (Nat.le_refl _) _).setCell (Nat.le_refl _) _)
      · have hr' : Hid (bl r2 = (bl s).dropLast) := hr2.out
        go_wp2_with fail
        refine (altitude_any r2 _ E1 (by omega)).mono ?_
        rintro e w2 ⟨n, x, rfl, hx0, hb20⟩
        have hx := Lib.hid hx0
        clear hx0
        have hb2 := Below.then_ hb1 hb20
        have E2 := E1.below hb20
        clear k0 k1 k2 k3 f0 f1 f2 f3 hsz hB hb20
        obtain ⟨⟨k0, k1, k2, k3⟩, ⟨f0, f1, f2, f3⟩, hsz, hB⟩ := boxed22 hb2
        have hres := Lib.hid (winRes_down (a := bl a) (b := bl b) hg.out.symm hg2.out.symm (by rw [← hr'.out]; exact hx.out))
        go_wp2
        refine bodyPost_ret (v := .tuple #[.agg #[.int .i64 (-200000), .int .i64 n], .bool x]) (by simp [results, Tryz.results401, go_sem, k0, k1, k2, k3]) rfl ?_
        exact winPost hspec.out hres.out (((hB.setCell (p := ⟨w.heap.size + 1, 1, none⟩) (by simp) _).setCell (p := ⟨w.heap.size, 0, none⟩) (Nat.le_refl _) _).setCell (p := ⟨w.heap.size, 1, none⟩) (Nat.le_refl _) _)
    · have hr' : Hid (bl r = (bl s).dropLast) := hr.out
      go_wp2_with fail
      refine (altitude_any r _ E1 (by omega)).mono ?_
      rintro e w2 ⟨n, x, rfl, hx0, hb20⟩
      have hx := Lib.hid hx0
      clear hx0
      have hb2 := Below.then_ hb1 hb20
      have E2 := E1.below hb20
      clear k0 k1 k2 k3 f0 f1 f2 f3 hsz hB hb20
      obtain ⟨⟨k0, k1, k2, k3⟩, ⟨f0, f1, f2, f3⟩, hsz, hB⟩ := boxed22 hb2
      have hres := Lib.hid (winRes_up (a := bl a) (b := bl b) hg.out.symm (by rw [← hr'.out]; exact hx.out))
      go_wp2
      refine bodyPost_ret (v := .tuple #[.agg #[.int .i64 n, .int .i64 6000000], .bool x]) (by simp [results, Tryz.results401, go_sem, k0, k1, k2, k3]) rfl ?_
      exact winPost hspec.out hres.out (((hB.setCell (p := ⟨w.heap.size + 1, 0, none⟩) (by simp) _).setCell (p := ⟨w.heap.size, 0, none⟩) (Nat.le_refl _) _).setCell (p := ⟨w.heap.size, 1, none⟩) (Nat.le_refl _) _)
  · go_wp2_with fail
    refine (altitude_any a _ E1 (by omega)).mono ?_
    rintro e w2 ⟨n, x, rfl, hx0, hb20⟩
    have hx := Lib.hid hx0
    clear hx0
    have hb2 := Below.then_ hb1 hb20
    have E2 := E1.below hb20
    clear k0 k1 k2 k3 f0 f1 f2 f3 hsz hB hb20
    obtain ⟨⟨k0, k1, k2, k3⟩, ⟨f0, f1, f2, f3⟩, hsz, hB⟩ := boxed22 hb2
    go_wp2_with fail
    refine (altitude_any b _ E2 (by omega)).mono ?_
    rintro e w3 ⟨m, y, rfl, hy0, hb30⟩
    have hy := Lib.hid hy0
    clear hy0
    have hb3 := Below.then_ hb2 hb30
    have E3 := E2.below hb30
    clear k0 k1 k2 k3 f0 f1 f2 f3 hsz hB hb30
    obtain ⟨⟨k0, k1, k2, k3⟩, ⟨f0, f1, f2, f3⟩, hsz, hB⟩ := boxed22 hb3
    have hr := Lib.hid (winRes_two (l := bl s) hx.out hy.out)
    cases x
    · go_wp2
      refine bodyPost_ret (v := .tuple #[.agg #[.int .i64 n, .int .i64 m], .bool false]) (by simp [results, Tryz.results401, go_sem, k0, k1, k2, k3]) rfl ?_
      exact winPost hspec.out hr.out ((hB.setCell (Nat.le_refl _) _).setCell (Nat.le_refl _) _)
    · go_wp2
      refine bodyPost_ret (v := .tuple #[.agg #[.int .i64 n, .int .i64 m], .bool y]) (by simp [results, Tryz.results401, go_sem, k0, k1, k2, k3]) rfl ?_
      exact winPost hspec.out hr.out ((hB.setCell (Nat.le_refl _) _).setCell (Nat.le_refl _) _)
theorem window_any (s : ByteArray) (w : World) (E : Env w) (hs : s.size ≤ 140737488351232) :
    Calls Tryz.prog 401 #[.string s] w (WinPost s w) := by
  cases h : (s.toList == [45])
  · exact window_else s w E hs h
  · exact window_dash s w h

/-- what ParseWindow answers: the window, or zeros, and the error -/
def pwLo (l : List UInt8) (o : Option (Int × Int)) : Int := match o with
  | some (a, b) => if rangedB a && rangedB b && decide (a ≤ b) && (winOut a b == l) then a else 0
  | none => 0
def pwHi (l : List UInt8) (o : Option (Int × Int)) : Int := match o with
  | some (a, b) => if rangedB a && rangedB b && decide (a ≤ b) && (winOut a b == l) then b else 0
  | none => 0
def pwErr (l : List UInt8) (o : Option (Int × Int)) : Int := match o with
  | some (a, b) => if rangedB a && rangedB b then (if a ≤ b then (if winOut a b == l then 0 else 4) else 9) else 2
  | none => 4
def PwPost (s : ByteArray) (w : World) (e : Ending) (w' : World) : Prop :=
  e = .returned (.tuple #[.agg #[.int .i64 (pwLo (bl s) (winSpec (bl s))), .int .i64 (pwHi (bl s) (winSpec (bl s)))], .int .i64 (pwErr (bl s) (winSpec (bl s)))]) ∧ Below w.heap.size w w'
theorem pwPost {s : ByteArray} {w w' : World} {lo hi er : Int} {o : Option (Int × Int)} (ho : winSpec (bl s) = o) (h1 : lo = pwLo (bl s) o) (h2 : hi = pwHi (bl s) o) (h3 : er = pwErr (bl s) o) (hb : Below w.heap.size w w') :
    PwPost s w (.returned (.tuple #[.agg #[.int .i64 lo, .int .i64 hi], .int .i64 er])) w' := by
  unfold PwPost
  rw [ho, ← h1, ← h2, ← h3]
  exact ⟨rfl, hb⟩
theorem pw_range {l : List UInt8} {a b : Int} (h : (rangedB a && rangedB b) = false) : 0 = pwLo l (some (a, b)) ∧ 0 = pwHi l (some (a, b)) ∧ 2 = pwErr l (some (a, b)) := by
  unfold pwLo pwHi pwErr; simp only [h]; exact ⟨rfl, rfl, rfl⟩
theorem pw_order {l : List UInt8} {a b : Int} (h1 : rangedB a = true) (h2 : rangedB b = true) (h : b < a) : 0 = pwLo l (some (a, b)) ∧ 0 = pwHi l (some (a, b)) ∧ 9 = pwErr l (some (a, b)) := by
  unfold pwLo pwHi pwErr
  simp only [h1, h2, decide_eq_false (show ¬ a ≤ b by omega), if_neg (show ¬ a ≤ b by omega)]; exact ⟨rfl, rfl, rfl⟩
theorem pw_form {l : List UInt8} {a b : Int} (h1 : rangedB a = true) (h2 : rangedB b = true) (h : a ≤ b) (h3 : ¬ winOut a b = l) : 0 = pwLo l (some (a, b)) ∧ 0 = pwHi l (some (a, b)) ∧ 4 = pwErr l (some (a, b)) := by
  have h4 : (winOut a b == l) = false := by rw [beq_eq_false_iff_ne]; exact h3
  unfold pwLo pwHi pwErr
  simp only [h1, h2, decide_eq_true h, if_pos h, h4]; exact ⟨rfl, rfl, rfl⟩
theorem pw_ok {l : List UInt8} {a b : Int} (h1 : rangedB a = true) (h2 : rangedB b = true) (h : a ≤ b) (h3 : winOut a b = l) : a = pwLo l (some (a, b)) ∧ b = pwHi l (some (a, b)) ∧ 0 = pwErr l (some (a, b)) := by
  have h4 : (winOut a b == l) = true := by rw [beq_iff_eq]; exact h3
  unfold pwLo pwHi pwErr
  simp only [h1, h2, decide_eq_true h, if_pos h, h4]; exact ⟨rfl, rfl, rfl⟩

set_option maxHeartbeats 1000000 in
theorem parseWindow_any (s : ByteArray) (w : World) (E : Env w) (hs : s.size ≤ 140737488351232) :
    Calls Tryz.prog 372 #[.string s] w (PwPost s w) := by
  go_enter Tryz.func372, Tryz.ntmps372
  go_wp2_with fail
  refine (window_any s _ (E.alloc _) hs).mono ?_
  rintro e w1 ⟨lo, hi, ok, rfl, hres, hb1⟩
  have E1 := (E.alloc _).below hb1
  have hres' : (ok = false ∧ Hid (winSpec (bl s) = none)) ∨ (ok = true ∧ ∃ a b, Hid (winSpec (bl s) = some (a, b)) ∧ Hid (Near lo a) ∧ Hid (Near hi b)) := by
    cases h : winSpec (bl s) with
    | none => rw [h] at hres; exact .inl ⟨hres, rfl⟩
    | some v => rw [h] at hres; exact .inr ⟨hres.1, v.1, v.2, rfl, hres.2.1, hres.2.2⟩
  clear hres
  obtain ⟨k0, k1⟩ := boxed2 hb1
  obtain ⟨f0, f1⟩ := boxed2f hb1
  have hB := below_box hb1
  have hN : w.heap.size < w1.heap.size := Nat.lt_of_lt_of_le (by simp) hb1.size
  rcases hres' with ⟨rfl, ho⟩ | ⟨rfl, a, b, ho, hla, hib⟩
  · go_wp2
    refine bodyPost_ret (v := .tuple #[.agg #[.int .i64 0, .int .i64 0], .int .i64 4]) (by simp [results, Tryz.results372, go_sem, k0, k1, hN]) rfl ?_
    exact pwPost ho.out rfl rfl rfl ((((hB.setCell (p := ⟨w.heap.size, 0, none⟩) (Nat.le_refl _) _).setCell (p := ⟨w.heap.size, 1, none⟩) (Nat.le_refl _) _)).alloc (by simp [World.setCell]; omega) _)
  · go_wp2_with fail
    refine (ranged_any lo _).mono ?_
    rintro e w' ⟨rfl, rfl⟩
    rcases hr1 : rangedB lo with _ | _
    · have h1 := Lib.hid (pw_range (l := bl s) (a := a) (b := b) (by rw [← hla.out.1, hr1]; rfl))
      clear hr1
      go_wp2
      refine bodyPost_ret (v := .tuple #[.agg #[.int .i64 0, .int .i64 0], .int .i64 2]) (by simp [results, Tryz.results372, go_sem, k0, k1, hN]) rfl ?_
      exact pwPost ho.out h1.out.1 h1.out.2.1 h1.out.2.2 ((((hB.setCell (p := ⟨w.heap.size, 0, none⟩) (Nat.le_refl _) _).setCell (p := ⟨w.heap.size, 1, none⟩) (Nat.le_refl _) _)).alloc (by simp [World.setCell]; omega) _)
    · have hra : Hid (rangedB a = true) := hla.out.1.symm.trans hr1
      have hloa : lo = a := hla.out.2 hra.out
      clear hr1 hla
      subst hloa
      go_wp2_with fail
      refine (ranged_any hi _).mono ?_
      rintro e w' ⟨rfl, rfl⟩
      rcases hr2 : rangedB hi with _ | _
      · have h1 := Lib.hid (pw_range (l := bl s) (a := lo) (b := b) (by rw [← hib.out.1, hr2, Bool.and_false]))
        clear hr2
        go_wp2
        refine bodyPost_ret (v := .tuple #[.agg #[.int .i64 0, .int .i64 0], .int .i64 2]) (by simp [results, Tryz.results372, go_sem, k0, k1, hN]) rfl ?_
        exact pwPost ho.out h1.out.1 h1.out.2.1 h1.out.2.2 ((((hB.setCell (p := ⟨w.heap.size, 0, none⟩) (Nat.le_refl _) _).setCell (p := ⟨w.heap.size, 1, none⟩) (Nat.le_refl _) _)).alloc (by simp [World.setCell]; omega) _)
      · have hrb : Hid (rangedB b = true) := hib.out.1.symm.trans hr2
        have hhib : hi = b := hib.out.2 hrb.out
        clear hr2 hib
        subst hhib
        by_cases hord : hi < lo
        · have h1 := Lib.hid (pw_order (l := bl s) hra.out hrb.out hord)
          go_wp2
          refine bodyPost_ret (v := .tuple #[.agg #[.int .i64 0, .int .i64 0], .int .i64 9]) (by simp [results, Tryz.results372, go_sem, k0, k1, hN]) rfl ?_
          exact pwPost ho.out h1.out.1 h1.out.2.1 h1.out.2.2 ((((hB.setCell (p := ⟨w.heap.size, 0, none⟩) (Nat.le_refl _) _).setCell (p := ⟨w.heap.size, 1, none⟩) (Nat.le_refl _) _)).alloc (by simp [World.setCell]; omega) _)
        · have hord' : lo ≤ hi := by omega
          clear hord
          go_wp2_with fail
          refine (winText_any lo hi _ (E1.alloc _)).mono ?_
          rintro e w2 ⟨t, rfl, ht, hb2⟩
          obtain ⟨k2, k3⟩ := boxed2 hb2
          have m0 : w2.cell? ⟨w.heap.size, 0, none⟩ = some (.int .i64 0) := (hb2.cell (p := ⟨w.heap.size, 0, none⟩) (by simp; omega)).trans ((World.cell?_alloc_lt w1 _ ⟨w.heap.size, 0, none⟩ hN).trans k0)
          have m1 : w2.cell? ⟨w.heap.size, 1, none⟩ = some (.int .i64 0) := (hb2.cell (p := ⟨w.heap.size, 1, none⟩) (by simp; omega)).trans ((World.cell?_alloc_lt w1 _ ⟨w.heap.size, 1, none⟩ hN).trans k1)
          have n0 : w2.frozen? ⟨w.heap.size, 0, none⟩ = false := (hb2.frozen (p := ⟨w.heap.size, 0, none⟩) (by simp; omega)).trans ((frozen_alloc_lt w1 _ ⟨w.heap.size, 0, none⟩ hN).trans f0)
          have n1 : w2.frozen? ⟨w.heap.size, 1, none⟩ = false := (hb2.frozen (p := ⟨w.heap.size, 1, none⟩) (by simp; omega)).trans ((frozen_alloc_lt w1 _ ⟨w.heap.size, 1, none⟩ hN).trans f1)
          have hB2 : Below w.heap.size w w2 := (hB.alloc (Nat.le_of_lt hN) _).trans (hb2.mono (by simp; omega))
          clear k0 k1 f0 f1
          by_cases hq : winOut lo hi = bl s
          · have e1 : (t.toList == s.toList) = true := by rw [bl_toList, bl_toList, ht.out, hq, beq_iff_eq]
            have h1 := Lib.hid (pw_ok hra.out hrb.out hord' hq)
            clear hq
            go_wp2
            refine bodyPost_ret (v := .tuple #[.agg #[.int .i64 lo, .int .i64 hi], .int .i64 0]) (by simp [results, Tryz.results372, go_sem, m0, m1, k2, k3, hN]) rfl ?_
            exact pwPost ho.out h1.out.1 h1.out.2.1 h1.out.2.2 ((hB2.setCell (p := ⟨w.heap.size, 0, none⟩) (Nat.le_refl _) _).setCell (p := ⟨w.heap.size, 1, none⟩) (Nat.le_refl _) _)
          · have e1 : (t.toList == s.toList) = false := by rw [bl_toList, bl_toList, ht.out, beq_eq_false_iff_ne]; exact hq
            have h1 := Lib.hid (pw_form hra.out hrb.out hord' hq)
            clear hq
            go_wp2
            refine bodyPost_ret (v := .tuple #[.agg #[.int .i64 0, .int .i64 0], .int .i64 4]) (by simp [results, Tryz.results372, go_sem, m0, m1, hN]) rfl ?_
            exact pwPost ho.out h1.out.1 h1.out.2.1 h1.out.2.2 ((hB2.setCell (p := ⟨w.heap.size, 0, none⟩) (Nat.le_refl _) _).setCell (p := ⟨w.heap.size, 1, none⟩) (Nat.le_refl _) _)
end Go.Proofs.YtgmehlgfilpleaaGreatDoor
