/-
  Contracts: Next of both sides; the law's comparison of hops.
-/
import Derived.Test.YtgnnblkpjankgaaGreatDoorAwHop
namespace Go.Proofs.YtgnnblkpjankgaaGreatDoor
open Go.RowKit
set_option linter.unusedVariables false
set_option linter.unusedSimpArgs false

theorem hpcells_at (l : List Hp) : ∀ (k : Nat) (h : k < l.length), (hpcells l)[k * 4]? = some (.string (sb l[k].aw)) ∧ (hpcells l)[k * 4 + 1]? = some (.string (sb l[k].dst)) ∧ (hpcells l)[k * 4 + 2]? = some (.int .i64 l[k].lo) ∧ (hpcells l)[k * 4 + 3]? = some (.int .i64 l[k].hi) := by
  induction l with
  | nil => intro k h; simp at h
  | cons p l ih =>
    intro k h
    cases k with
    | zero => exact ⟨rfl, rfl, rfl, rfl⟩
    | succ k =>
      have := ih k (by simpa using h)
      rw [show (k + 1) * 4 = k * 4 + 4 by omega]
      exact this
theorem HpsR.form {w : World} {v : Value} {l : List Hp} (h : HpsR w v l) : ∃ A c, v = .slice A l.length c ∧ l.length ≤ c ∧ c ≤ maxLen := h.1.form
theorem HpsR.below {w w' : World} {v : Value} {l : List Hp} (h : HpsR w v l) (hb : Below w.heap.size w w') : HpsR w' v l := by
  refine ⟨h.1.below hb, ?_⟩
  rcases h.2 with h0 | ⟨g, o, c, cur, z, hv, hh⟩
  · exact .inl h0
  · exact .inr ⟨g, o, c, cur, z, hv, (hb.block g (Array.getElem?_eq_some_iff.1 hh).1).trans hh⟩
theorem HpsR.nil (w : World) : HpsR w (.slice none 0 0) [] := ⟨Rd.nil w 4, .inl rfl⟩
/-- a write to a block that is no row of hops -/
theorem HpsR.grown {w w' : World} {v : Value} {l : List Hp} {row : Option Nat} (h : HpsR w v l) (hg : w.grownBy w' row) (hr : ∀ k cur z, row = some k → w.heap[k]? ≠ some (.cells cur 48 z)) : HpsR w' v l := by
  obtain ⟨⟨hl, A, c, hv, hc, hm, hx⟩, h2⟩ := h
  rcases h2 with h0 | ⟨g, o, c', cur, z, hv', hh⟩
  · exact ⟨⟨hl, A, c, hv, hc, hm, fun hn => absurd hn (by omega)⟩, .inl h0⟩
  · have hb : w'.heap[g]? = w.heap[g]? := hg.block g (Array.getElem?_eq_some_iff.1 hh).1 (fun e => hr g cur z e.symm hh)
    refine ⟨⟨hl, A, c, hv, hc, hm, fun hn => ?_⟩, .inr ⟨g, o, c', cur, z, hv', hb.trans hh⟩⟩
    obtain ⟨g2, o2, hA, hgl, hcell⟩ := hx hn
    have e : g = g2 := by
      rw [hv, hA] at hv'
      injection hv' with ha
      injection ha with ha
      injection ha with ha
      exact ha.symm
    subst e
    exact ⟨g, o2, hA, Nat.lt_of_lt_of_le hgl hg.size, fun j u hu => (World.cell?_of_block (w := w) (a := ⟨g, o2 + j, none⟩) hb).trans (hcell j u hu)⟩
theorem HpsR.at_ {w : World} {v : Value} {l : List Hp} (h : HpsR w v l) {k : Nat} (hk : k < l.length) :
    ∃ g o c, v = .slice (some ⟨g, o, none⟩) l.length c ∧ g < w.heap.size ∧ w.cell? ⟨g, o + k * 4, none⟩ = some (.string (sb l[k].aw)) ∧ w.cell? ⟨g, o + k * 4 + 1, none⟩ = some (.string (sb l[k].dst)) ∧ w.cell? ⟨g, o + k * 4 + 2, none⟩ = some (.int .i64 l[k].lo) ∧ w.cell? ⟨g, o + k * 4 + 3, none⟩ = some (.int .i64 l[k].hi) := by
  obtain ⟨⟨hl, A, c, hv, hc, hm, hr⟩, _⟩ := h
  obtain ⟨g, o, rfl, hg, hx⟩ := hr (by omega)
  obtain ⟨h0, h1, h2, h3⟩ := hpcells_at l k hk
  exact ⟨g, o, c, hv, hg, hx _ _ h0, hx _ _ h1, hx _ _ h2, hx _ _ h3⟩
set_option maxHeartbeats 1000000 in
theorem hops_same (va vb : Value) (l : List Hp) (w : World) (ha : HpsR w va l) (hb : HpsR w vb l) :
    Calls Tryz.prog 35 #[va, vb] w fun e w' => e = .returned (.bool true) ∧ Drawn w w' := by
  obtain ⟨A, c, rfl, hc, hm⟩ := ha.form
  obtain ⟨A', c', rfl, hc', hm'⟩ := hb.form
  obtain ⟨n, hn⟩ : ∃ n, l.length = n := ⟨_, rfl⟩
  have HN := Lib.hid hn
  rw [hn] at ha hb hc hc' ⊢
  have HA := Lib.hid ha
  have HB := Lib.hid hb
  clear ha hb hn
  unfold maxLen at hm hm'
  go_enter Tryz.func35, Tryz.ntmps35
  go_wp2
  go_loopw [13] (fun i wr => ∃ k : Nat, k ≤ n ∧ i = .int .i64 k ∧ Drawn w wr) (fun i _ => n - (intOf i).toNat)
  case atStart => exact ⟨0, Nat.zero_le _, rfl, Drawn.refl _⟩
  case round =>
    obtain ⟨k, hk, rfl, m, rfl⟩ := hrel
    by_cases hlt : k < n
    · have hkl : k < l.length := by rw [HN.out]; exact hlt
      obtain ⟨g, o, c1, hv, _, y1, y2, y3, y4⟩ := HA.out.at_ hkl
      obtain ⟨g', o', c1', hv', _, y1', y2', y3', y4'⟩ := HB.out.at_ hkl
      rw [HN.out] at hv hv'
      simp only [Value.slice.injEq, true_and] at hv hv'
      obtain ⟨rfl, rfl⟩ := hv
      obtain ⟨rfl, rfl⟩ := hv'
      obtain ⟨p, hp⟩ : ∃ p, l[k] = p := ⟨_, rfl⟩
      rw [hp] at y1 y2 y3 y4 y1' y2' y3' y4'
      clear hp hkl
      have hki : (k : Int) < (n : Int) := by omega
      go_wp2
      go_quiet (fail)
      go_wp2
      go_roundw
      case rel => exact ⟨k + 1, hlt, by go_num, _, rfl⟩
      case measure => simp [intOf]; omega
    · go_wp2
      go_ret
      exact ⟨rfl, _, rfl⟩
def nextL (L : List Aw) (r : List UInt8) : List Hp := if chkL L = 0 then hopsL L r else []
theorem chkL_small {L : List Aw} (h : chkL L = 0) : L.length ≤ 60 := by
  unfold chkL at h
  split at h
  · cases h
  · omega
def NextPost (L : List Aw) (r : List UInt8) (w : World) (e : Ending) (w' : World) : Prop := ∃ v, e = .returned (.tuple #[v, .int .i64 (chkL L)]) ∧ HpsR w' v (nextL L r) ∧ Below w.heap.size w w'
set_option maxHeartbeats 1000000 in
theorem next_any (v : Value) (L : List Aw) (r : ByteArray) (w : World) (h : AwsR w v L) :
    Calls Tryz.prog 13 #[v, .string r] w (NextPost L (bl r) w) := by
  have H := Lib.hid h
  clear h
  obtain ⟨x, hx⟩ : ∃ x, chkL L = x := ⟨_, rfl⟩
  have HX := Lib.hid hx
  have HP : Hid (∀ (v' : Value) (w' : World), HpsR w' v' (nextL L (bl r)) → Below w.heap.size w w' → NextPost L (bl r) w (.returned (.tuple #[v', .int .i64 x])) w') := fun v' w' h1 h2 => ⟨v', by rw [HX.out], h1, h2⟩
  clear hx
  go_enter Tryz.func13, Tryz.ntmps13
  go_wp2_with fail
  refine (checkL_any v L _ H.out).mono ?_
  rintro e w1 ⟨rfl, hb1⟩
  rw [HX.out]
  by_cases h0 : x = 0
  · have e1 : (x != 0) = false := by rw [h0]; rfl
    have H0 := Lib.hid h0
    have HS : Hid (L.length ≤ 60) := chkL_small (HX.out.trans h0)
    rw [h0] at HP
    clear h0
    go_wp2_with fail
    refine (hops_index_any v L r _ (H.out.below hb1) HS.out).mono ?_
    rintro e w2 ⟨v2, rfl, hv2, hb2⟩
    have HV := Lib.hid hv2
    clear hv2
    go_wp2
    go_ret2
    exact HP.out _ _ (by unfold nextL; rw [if_pos (HX.out.trans H0.out)]; exact HV.out) (Below.then_ hb1 hb2)
  · have e1 : (x != 0) = true := bne_iff_ne.2 h0
    have H0 := Lib.hid h0
    clear h0
    go_wp2
    go_ret2
    exact HP.out _ _ (by unfold nextL; rw [if_neg (by rw [HX.out]; exact H0.out)]; exact HpsR.nil _) hb1
end Go.Proofs.YtgnnblkpjankgaaGreatDoor
