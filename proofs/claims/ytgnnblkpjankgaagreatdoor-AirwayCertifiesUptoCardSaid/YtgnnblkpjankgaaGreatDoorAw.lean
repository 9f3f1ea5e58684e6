/-
  Airways in memory: points, and the index of a reference on both sides.
-/
import Derived.Test.YtgnnblkpjankgaaGreatDoorRefT
namespace Go.Proofs.YtgnnblkpjankgaaGreatDoor
open Go.RowKit
set_option linter.unusedVariables false
set_option linter.unusedSimpArgs false

section
variable {w w' : World} {size n : Nat} {v : Value} {xs : List Value}
end
/-- a point: its reference, its window, its direction -/
structure Pt where
  ref : List UInt8
  lo : Int
  hi : Int
  dir : Nat
def ptc (p : Pt) : List Value := [.string (sb p.ref), .int .i64 p.lo, .int .i64 p.hi, .int .u8 (p.dir : Int)]
def ptcells (l : List Pt) : List Value := l.flatMap ptc
theorem ptcells_len (l : List Pt) : (ptcells l).length = l.length * 4 := by
  induction l with
  | nil => rfl
  | cons p l ih =>
    show (ptc p ++ ptcells l).length = _
    rw [List.length_append, ih, List.length_cons]
    show 4 + _ = _
    omega
theorem ptcells_snoc (l : List Pt) (p : Pt) : ptcells (l ++ [p]) = ptcells l ++ ptc p := by
  unfold ptcells; rw [List.flatMap_append]; simp
theorem ptcells_at (l : List Pt) : ∀ (k : Nat) (h : k < l.length), (ptcells l)[k * 4]? = some (.string (sb l[k].ref)) ∧ (ptcells l)[k * 4 + 1]? = some (.int .i64 l[k].lo) ∧ (ptcells l)[k * 4 + 2]? = some (.int .i64 l[k].hi) ∧ (ptcells l)[k * 4 + 3]? = some (.int .u8 (l[k].dir : Int)) := by
  induction l with
  | nil => intro k h; simp at h
  | cons p l ih =>
    intro k h
    cases k with
    | zero => exact ⟨rfl, rfl, rfl, rfl⟩
    | succ k =>
      have := ih k (by simpa using h)
      rw [show (k + 1) * 4 = k * 4 + 4 by omega]
      exact this
/-- points in memory; their strings fit, their directions are bytes -/
def PtsR (w : World) (v : Value) (l : List Pt) : Prop := Rd w 4 v l.length (ptcells l) ∧ ∀ p ∈ l, p.ref.length ≤ maxLen ∧ p.dir < 256
theorem PtsR.form {w : World} {v : Value} {l : List Pt} (h : PtsR w v l) : ∃ A c, v = .slice A l.length c ∧ l.length ≤ c ∧ c ≤ maxLen := h.1.form
theorem PtsR.below {w w' : World} {v : Value} {l : List Pt} (h : PtsR w v l) (hb : Below w.heap.size w w') : PtsR w' v l := ⟨h.1.below hb, h.2⟩
theorem PtsR.at_ {w : World} {v : Value} {l : List Pt} (h : PtsR w v l) {k : Nat} (hk : k < l.length) :
    ∃ g o c, v = .slice (some ⟨g, o, none⟩) l.length c ∧ g < w.heap.size ∧ w.cell? ⟨g, o + k * 4, none⟩ = some (.string (sb l[k].ref)) ∧ w.cell? ⟨g, o + k * 4 + 1, none⟩ = some (.int .i64 l[k].lo) ∧ w.cell? ⟨g, o + k * 4 + 2, none⟩ = some (.int .i64 l[k].hi) ∧ w.cell? ⟨g, o + k * 4 + 3, none⟩ = some (.int .u8 (l[k].dir : Int)) := by
  obtain ⟨⟨hl, A, c, hv, hc, hm, hr⟩, _⟩ := h
  obtain ⟨g, o, rfl, hg, hx⟩ := hr (by omega)
  obtain ⟨h0, h1, h2, h3⟩ := ptcells_at l k hk
  exact ⟨g, o, c, hv, hg, hx _ _ h0, hx _ _ h1, hx _ _ h2, hx _ _ h3⟩

/-- the index of the first point with a reference from place n on -/
def idxFrom (r : List UInt8) (n : Nat) : List Pt → Int
  | [] => -1
  | p :: l => if p.ref = r then n else idxFrom r (n + 1) l
def idxOf (l : List Pt) (r : List UInt8) : Int := idxFrom r 0 l
theorem idx_step {l : List Pt} {k : Nat} (r : List UInt8) (h : k < l.length) : idxFrom r k (l.drop k) = if l[k].ref = r then (k : Int) else idxFrom r (k + 1) (l.drop (k + 1)) := by
  rw [List.drop_eq_getElem_cons h]; rfl
theorem idx_end {l : List Pt} {k : Nat} (r : List UInt8) (h : l.length ≤ k) : idxFrom r k (l.drop k) = -1 := by
  rw [List.drop_eq_nil_of_le h]; rfl
set_option maxHeartbeats 400000 in
theorem same_any (t r : ByteArray) (a b : Int) (d : Nat) (B : Nat) (w : World) (hr : w.cell? ⟨B, 0, none⟩ = some (.string r)) (hB : B < w.heap.size) :
    Calls Tryz.prog 72 #[.agg #[.string t, .int .i64 a, .int .i64 b, .int .u8 (d : Int)], .pointer (some ⟨B, 0, none⟩)] w fun e w' => e = .returned (.bool (t.toList == r.toList)) ∧ Below w.heap.size w w' := by
  go_enter Tryz.func72, Tryz.ntmps72
  go_wp2
  go_ret
  exact ⟨rfl, (Below.refl _ _).alloc (Nat.le_refl _) _⟩
theorem str_eq {t r : ByteArray} : (t.toList == r.toList) = decide (bl t = bl r) := by
  rw [bl_toList, bl_toList, Bool.eq_iff_iff, beq_iff_eq, decide_eq_true_iff]
set_option maxRecDepth 100000 in
set_option maxHeartbeats 1000000 in
theorem indexFunc_any (v : Value) (l : List Pt) (r : ByteArray) (B : Nat) (w : World) (h : PtsR w v l) (hr : w.cell? ⟨B, 0, none⟩ = some (.string r)) (hB : B < w.heap.size) :
    Calls Tryz.prog 71 #[v, .func (.func 72) #[] #[.pointer (some ⟨B, 0, none⟩)]] w
      fun e w' => e = .returned (.int .i64 (idxOf l (bl r))) ∧ Below w.heap.size w w' := by
  obtain ⟨A, c, rfl, hc, hm⟩ := h.form
  unfold maxLen at hm
  have H := Lib.hid h
  clear h
  obtain ⟨n, hnn⟩ : ∃ n, l.length = n := ⟨_, rfl⟩
  rw [hnn] at hc H
  rw [hnn]
  have HN := Lib.hid hnn
  obtain ⟨x, hx⟩ : ∃ x, idxOf l (bl r) = x := ⟨_, rfl⟩
  rw [hx]
  have HX := Lib.hid hx
  clear hnn hx
  go_enter Tryz.func71, Tryz.ntmps71
  go_wp2
  go_loopw [8] (fun i wr => ∃ k : Nat, k ≤ n ∧ i = .int .i64 k ∧ Hid (idxFrom (bl r) k (l.drop k) = x) ∧ Below w.heap.size w wr) (fun i _ => n - (intOf i).toNat)
  case atStart => exact ⟨0, Nat.zero_le _, rfl, HX.out, Below.refl _ _⟩
  case round =>
    obtain ⟨k, hk, rfl, hix, hbr⟩ := hrel
    by_cases hlt : k < n
    · have hkl : k < l.length := by rw [HN.out]; exact hlt
      obtain ⟨g, o, c', hA, hg, h0, h1, h2, h3⟩ := H.out.at_ hkl
      rw [HN.out] at hA
      simp only [Value.slice.injEq, true_and] at hA
      obtain ⟨rfl, rfl⟩ := hA
      have k0 := (hbr.cell (p := ⟨g, o + k * 4, none⟩) hg).trans h0
      have k1 := (hbr.cell (p := ⟨g, o + k * 4 + 1, none⟩) hg).trans h1
      have k2 := (hbr.cell (p := ⟨g, o + k * 4 + 2, none⟩) hg).trans h2
      have k3 := (hbr.cell (p := ⟨g, o + k * 4 + 3, none⟩) hg).trans h3
      have HS := Lib.hid (idx_step (bl r) hkl)
      obtain ⟨p, hp⟩ : ∃ p, l[k] = p := ⟨_, rfl⟩
      rw [hp] at k0 k1 k2 k3 HS
      clear h0 h1 h2 h3 hp hkl
      have hr2 := (hbr.cell (p := ⟨B, 0, none⟩) hB).trans hr
      have hB2 : B < wr.heap.size := Nat.lt_of_lt_of_le hB hbr.size
      go_wp2_with fail
      refine (same_any (sb p.ref) r p.lo p.hi p.dir B _ hr2 hB2).mono ?_
      rintro e w1 ⟨rfl, hb1⟩
      have hbn := hbr.trans (hb1.mono hbr.size)
      rw [str_eq, bl_sb]
      clear hr2 hB2 k0 k1 k2 k3
      by_cases he : p.ref = bl r
      · have HE := Lib.hid he
        rw [decide_eq_true he]
        clear he
        go_wp2
        go_ret
        exact ⟨ret_int (by rw [← hix.out, HS.out, if_pos HE.out]), hbn⟩
      · have HE := Lib.hid he
        rw [decide_eq_false he]
        clear he
        go_wp2
        go_roundw
        case rel => exact ⟨k + 1, hlt, by go_num, by unfold Hid; rw [← hix.out, HS.out, if_neg HE.out], hbn⟩
        case measure => simp [intOf]; omega
    · have HE := Lib.hid (idx_end (l := l) (k := k) (bl r) (by have := HN.out; omega))
      go_wp2
      go_ret
      exact ⟨ret_int (by rw [← hix.out, HE.out]), hbr⟩
set_option maxHeartbeats 1000000 in
theorem index_any (nm r : ByteArray) (v : Value) (l : List Pt) (w : World) (h : PtsR w v l) :
    Calls Tryz.prog 49 #[.agg #[.string nm, v], .string r] w fun e w' => e = .returned (.int .i64 (idxOf l (bl r))) ∧ Below w.heap.size w w' := by
  obtain ⟨A, c, rfl, hc, hm⟩ := h.form
  go_enter Tryz.func49, Tryz.ntmps49
  go_wp2_with fail
  refine (indexFunc_any _ l r _ _ (h.below (((Below.refl _ _).alloc (Nat.le_refl _) _).alloc (by simp) _)) (by simp [go_sem]) (by simp)).mono ?_
  rintro e w1 ⟨rfl, hb1⟩
  have hbn := (((Below.refl w.heap.size w).alloc (Nat.le_refl _) (.cells #[.string nm, .slice A l.length c] 63)).alloc (by simp) (.cells #[.string r] 9)).trans (hb1.mono (by simp; omega))
  go_wp2
  go_ret
  exact ⟨rfl, hbn⟩
set_option maxRecDepth 100000 in
set_option maxHeartbeats 1000000 in
theorem rindex_any (nm r : ByteArray) (v : Value) (l : List Pt) (w : World) (h : PtsR w v l) :
    Calls Tryz.prog 58 #[.agg #[.string nm, v], .string r] w fun e w' => e = .returned (.int .i64 (idxOf l (bl r))) ∧ Below w.heap.size w w' := by
  obtain ⟨A, c, rfl, hc, hm⟩ := h.form
  unfold maxLen at hm
  have H := Lib.hid h
  clear h
  obtain ⟨n, hnn⟩ : ∃ n, l.length = n := ⟨_, rfl⟩
  rw [hnn] at hc H
  rw [hnn]
  have HN := Lib.hid hnn
  obtain ⟨x, hx⟩ : ∃ x, idxOf l (bl r) = x := ⟨_, rfl⟩
  rw [hx]
  have HX := Lib.hid hx
  clear hnn hx
  go_enter Tryz.func58, Tryz.ntmps58
  go_wp2
  go_loopw [10] (fun i wr => ∃ k : Nat, k ≤ n ∧ i = .int .i64 k ∧ Hid (idxFrom (bl r) k (l.drop k) = x) ∧ Below w.heap.size w wr) (fun i _ => n - (intOf i).toNat)
  case atStart => exact ⟨0, Nat.zero_le _, rfl, HX.out, (Below.refl _ _).alloc (Nat.le_refl _) _⟩
  case round =>
    obtain ⟨k, hk, rfl, hix, hbr⟩ := hrel
    by_cases hlt : k < n
    · have hkl : k < l.length := by rw [HN.out]; exact hlt
      obtain ⟨g, o, c', hA, hg, h0, h1, h2, h3⟩ := H.out.at_ hkl
      rw [HN.out] at hA
      simp only [Value.slice.injEq, true_and] at hA
      obtain ⟨rfl, rfl⟩ := hA
      have k0 := (hbr.cell (p := ⟨g, o + k * 4, none⟩) hg).trans h0
      have k1 := (hbr.cell (p := ⟨g, o + k * 4 + 1, none⟩) hg).trans h1
      have k2 := (hbr.cell (p := ⟨g, o + k * 4 + 2, none⟩) hg).trans h2
      have k3 := (hbr.cell (p := ⟨g, o + k * 4 + 3, none⟩) hg).trans h3
      have HS := Lib.hid (idx_step (bl r) hkl)
      obtain ⟨p, hp⟩ : ∃ p, l[k] = p := ⟨_, rfl⟩
      rw [hp] at k0 k1 k2 k3 HS
      clear h0 h1 h2 h3 hp hkl
      have hbn := hbr.alloc hbr.size (.cells #[.string (sb p.ref), .int .i64 p.lo, .int .i64 p.hi, .int .u8 (p.dir : Int)] 68)
      by_cases he : p.ref = bl r
      · have HE := Lib.hid he
        have e1 : ((sb p.ref).toList == r.toList) = true := by rw [str_eq, bl_sb, decide_eq_true he]
        clear he
        go_wp2
        go_ret
        exact ⟨ret_int (by rw [← hix.out, HS.out, if_pos HE.out]), hbn⟩
      · have HE := Lib.hid he
        have e1 : ((sb p.ref).toList == r.toList) = false := by rw [str_eq, bl_sb, decide_eq_false he]
        clear he
        go_wp2
        go_roundw
        case rel => exact ⟨k + 1, hlt, by go_num, by unfold Hid; rw [← hix.out, HS.out, if_neg HE.out], hbn⟩
        case measure => simp [intOf]; omega
    · have HE := Lib.hid (idx_end (l := l) (k := k) (bl r) (by have := HN.out; omega))
      go_wp2
      go_ret
      exact ⟨ret_int (by rw [← hix.out, HE.out]), hbr⟩
end Go.Proofs.YtgnnblkpjankgaaGreatDoor
