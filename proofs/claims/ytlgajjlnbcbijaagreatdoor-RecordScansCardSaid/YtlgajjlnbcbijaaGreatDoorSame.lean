/-
  Contracts of the law's own helpers: cut, sameFields (at equal fields).
-/
import Derived.Test.YtlgajjlnbcbijaaGreatDoorRead
namespace Go.Proofs.YtlgajjlnbcbijaaGreatDoor
open Go.RowKit
set_option linter.unusedVariables false
set_option linter.unusedSimpArgs false

set_option maxHeartbeats 400000 in
theorem cut_any (s : ByteArray) (n : Int) (hn0 : 0 ≤ n) (hn : n ≤ 1000000) (w : World) (hs : s.size ≤ maxLen) :
    Calls Tryz.prog 25 #[.string s, .int .i64 n] w fun e w' => ∃ t, e = .returned (.string t) ∧ Hid (bl t = (bl s).take n.toNat) ∧ (t.size : Int) ≤ n ∧ t.size ≤ s.size ∧ w = w' := by
  unfold maxLen at hs
  obtain ⟨m, rfl⟩ := Int.eq_ofNat_of_zero_le hn0
  have he : Hid ((min (s.size : Int) (m : Int)).toNat = min s.size m) := by unfold Hid; omega
  go_enter Tryz.func25, Tryz.ntmps25
  go_wp2
  go_ret
  have hb : bl (s.extract 0 (min (s.size : Int) (m : Int)).toNat) = (bl s).take m := by
    rw [he.out, bl_take]
    by_cases h : m ≤ s.size
    · rw [Nat.min_eq_right h]
    · rw [Nat.min_eq_left (by omega), List.take_of_length_le (by rw [bl_len]; exact Nat.le_refl _), List.take_of_length_le (by rw [bl_len]; omega)]
  have hl : (s.extract 0 (min (s.size : Int) (m : Int)).toNat).size = min m s.size := by rw [← bl_len, hb, List.length_take, bl_len]
  exact ⟨_, rfl, hb, by omega, by omega, rfl⟩

theorem Rd.three {w : World} {n : Nat} {v : Value} {xs : List Value} (h : Rd w 3 v n xs) {k : Nat} (hk : k < n) : ∃ g o c a b d, v = .slice (some ⟨g, o, none⟩) n c ∧ n ≤ c ∧ g < w.heap.size ∧ xs[k * 3]? = some a ∧ xs[k * 3 + 1]? = some b ∧ xs[k * 3 + 2]? = some d ∧ w.cell? ⟨g, o + k * 3, none⟩ = some a ∧ w.cell? ⟨g, o + k * 3 + 1, none⟩ = some b ∧ w.cell? ⟨g, o + k * 3 + 2, none⟩ = some d := by
  obtain ⟨hl, A, c, hv, hc, hm, hr⟩ := h
  obtain ⟨g, o, rfl, hg, hx⟩ := hr (by omega)
  have h1 : k * 3 < xs.length := by omega
  have h2 : k * 3 + 1 < xs.length := by omega
  have h3 : k * 3 + 2 < xs.length := by omega
  have e2 := hx _ _ (List.getElem?_eq_getElem h2)
  have e3 := hx _ _ (List.getElem?_eq_getElem h3)
  rw [← Nat.add_assoc] at e2 e3
  exact ⟨g, o, c, xs[k * 3], xs[k * 3 + 1], xs[k * 3 + 2], hv, hc, hg, List.getElem?_eq_getElem h1, List.getElem?_eq_getElem h2, List.getElem?_eq_getElem h3, hx _ _ (List.getElem?_eq_getElem h1), e2, by rwa [Nat.add_assoc] at e3 ⊢⟩
theorem dcells_at (l : List Dg) : ∀ (k : Nat) (h : k < l.length), (dcells l)[k * 3]? = some (.int .i64 (l[k].1 : Int)) ∧ (dcells l)[k * 3 + 1]? = some (.int .i64 l[k].2.1) ∧ (dcells l)[k * 3 + 2]? = some (.int .i64 l[k].2.2) := by
  induction l with
  | nil => intro k h; simp at h
  | cons d l ih =>
    intro k h
    cases k with
    | zero => exact ⟨rfl, rfl, rfl⟩
    | succ k =>
      have := ih k (by simpa using h)
      rw [show (k + 1) * 3 = k * 3 + 3 by omega]
      exact this
theorem rcells_at (L : List (Rec × Value)) : ∀ (k : Nat) (h : k < L.length), (rcells L)[k * 2]? = some (.int .i64 (L[k].1.1 : Int)) ∧ (rcells L)[k * 2 + 1]? = some L[k].2 := by
  induction L with
  | nil => intro k h; simp at h
  | cons d l ih =>
    intro k h
    cases k with
    | zero => exact ⟨rfl, rfl⟩
    | succ k =>
      have := ih k (by simpa using h)
      rw [show (k + 1) * 2 = k * 2 + 2 by omega]
      exact this
theorem RecsR.form {w : World} {v : Value} {rs : List Rec} (h : RecsR w v rs) : ∃ A c, v = .slice A rs.length c ∧ rs.length ≤ c ∧ c ≤ maxLen := by
  obtain ⟨L, _, h2, _⟩ := h
  exact h2.1.form
theorem RecsR.below {w w' : World} {v : Value} {rs : List Rec} (h : RecsR w v rs) (hb : Below w.heap.size w w') : RecsR w' v rs := by
  obtain ⟨L, h1, h2, h3⟩ := h
  exact ⟨L, h1, h2.below hb, h3.below hb⟩
theorem DgsR.below {w w' : World} {v : Value} {ds : List Dg} (h : DgsR w v ds) (hb : Below w.heap.size w w') : DgsR w' v ds := RdT.below h hb
theorem DgsR.form {w : World} {v : Value} {ds : List Dg} (h : DgsR w v ds) : ∃ A c, v = .slice A ds.length c ∧ ds.length ≤ c ∧ c ≤ maxLen := h.1.form
theorem RecsR.at_ {w : World} {v : Value} {rs : List Rec} (h : RecsR w v rs) {k : Nat} (hk : k < rs.length) : ∃ g o c fv, v = .slice (some ⟨g, o, none⟩) rs.length c ∧ w.cell? ⟨g, o + k * 2, none⟩ = some (.int .i64 (rs[k].1 : Int)) ∧ w.cell? ⟨g, o + k * 2 + 1, none⟩ = some fv ∧ RdT w 158 2 fv rs[k].2.length (fcells rs[k].2) := by
  obtain ⟨L, h1, h2, h3⟩ := h
  have hl : L.length = rs.length := by rw [← h1, List.length_map]
  have hkL : k < L.length := by omega
  have e : L[k].1 = rs[k] := by simp only [← h1, List.getElem_map]
  obtain ⟨g, o, c, a, b, hv, _, _, x1, x2, y1, y2⟩ := h2.1.two hk
  have := rcells_at L k hkL
  rw [this.1, Option.some.injEq] at x1
  rw [this.2, Option.some.injEq] at x2
  subst x1 x2
  rw [e] at y1
  refine ⟨g, o, c, _, hv, y1, y2, ?_⟩
  rw [← e]
  exact h3 _ (List.getElem_mem hkL)
theorem DgsR.at_ {w : World} {v : Value} {ds : List Dg} (h : DgsR w v ds) {k : Nat} (hk : k < ds.length) : ∃ g o c, v = .slice (some ⟨g, o, none⟩) ds.length c ∧ w.cell? ⟨g, o + k * 3, none⟩ = some (.int .i64 (ds[k].1 : Int)) ∧ w.cell? ⟨g, o + k * 3 + 1, none⟩ = some (.int .i64 ds[k].2.1) ∧ w.cell? ⟨g, o + k * 3 + 2, none⟩ = some (.int .i64 ds[k].2.2) := by
  obtain ⟨g, o, c, a, b, d, hv, _, _, x1, x2, x3, y1, y2, y3⟩ := Rd.three h.1 hk
  have := dcells_at ds k hk
  rw [this.1, Option.some.injEq] at x1
  rw [this.2.1, Option.some.injEq] at x2
  rw [this.2.2, Option.some.injEq] at x3
  subst x1 x2 x3
  exact ⟨g, o, c, hv, y1, y2, y3⟩

set_option maxHeartbeats 1000000 in
theorem diags_same (va vb : Value) (l : List Dg) (w : World) (ha : DgsR w va l) (hb : DgsR w vb l) :
    Calls Tryz.prog 59 #[va, vb] w fun e w' => e = .returned (.bool true) ∧ Drew w w' := by
  obtain ⟨A, c, rfl, hc, hm⟩ := ha.form
  obtain ⟨A', c', rfl, hc', hm'⟩ := hb.form
  obtain ⟨n, hn⟩ : ∃ n, l.length = n := ⟨_, rfl⟩
  have HN := Lib.hid hn
  have HA := Lib.hid ha
  have HB := Lib.hid hb
  clear ha hb
  rw [hn] at hc hc' ⊢
  clear hn
  unfold maxLen at hm hm'
  go_enter Tryz.func59, Tryz.ntmps59
  go_wp2
  go_loopw [13] (fun i wr => ∃ k : Nat, k ≤ n ∧ i = .int .i64 k ∧ Drew w wr) (fun i _ => n - (intOf i).toNat)
  case atStart => exact ⟨0, Nat.zero_le _, rfl, Drew.refl _⟩
  case round =>
    obtain ⟨k, hk, rfl, hbr⟩ := hrel
    by_cases hlt : k < n
    · obtain ⟨g, o, c1, hv, y1, y2, y3⟩ := (HA.out.below hbr.below).at_ (k := k) (by rw [HN.out]; exact hlt)
      obtain ⟨g', o', c1', hv', y1', y2', y3'⟩ := (HB.out.below hbr.below).at_ (k := k) (by rw [HN.out]; exact hlt)
      injection hv with hA _ hC
      injection hv' with hA' _ hC'
      subst hA hA' hC hC'
      have hki : (k : Int) < (n : Int) := by omega
      go_wp2
      go_quiet (fail)
      go_wp2
      go_roundw
      case rel => exact ⟨k + 1, hlt, by go_num, hbr.more _⟩
      case measure => simp [intOf]; omega
    · go_wp2
      go_ret
      exact ⟨rfl, hbr⟩
end Go.Proofs.YtlgajjlnbcbijaaGreatDoor
