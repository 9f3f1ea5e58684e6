/-
  Several texts as one.
  Airways in memory: points, and the index of a reference on both sides.
  Contracts: the first error of an airway on both sides.
  Contracts: the points that two airways share, on both sides; the law's comparisons.
  Contracts: the points between two points of an airway, on both sides.
  Plain laws: the text of an airway; what an airway without an error has.
  Contract: the points between two points of an airway, the reference's side.
  Lists of airways in memory; the first error of such a list on both sides; the law's comparisons of points and of references.
-/
import Derived.Test.YtinkdlmikhcpjaaGreatDoorMWords
import Derived.Deep.RegionHeld3
import Derived.Deep.DeepCutAuto
import Derived.Deep.CutRange
import Derived.Maps.AppendAt
import Derived.Deep.AppendLies
import Derived.IntWalk
import Derived.Deep.QuietTactic
import Derived.BigQuiet
namespace Go.Proofs.YtinkdlmikhcpjaaGreatDoor
open Go.RowKit
set_option linter.unusedVariables false
set_option linter.unusedSimpArgs false

section
variable {w w' : World} {size n : Nat} {v : Value} {xs : List Value}
end
/-- a point: its reference, its window, its direction -/
structure Pt where
  ref : List UInt8
  lo : Int
  hi : Int
  dir : Nat
def ptc (p : Pt) : List Value := [.string (sb p.ref), .int .i64 p.lo, .int .i64 p.hi, .int .u8 (p.dir : Int)]
def ptcells (l : List Pt) : List Value := l.flatMap ptc
theorem ptcells_len (l : List Pt) : (ptcells l).length = l.length * 4 := by
  induction l with
  | nil => rfl
  | cons p l ih =>
    show (ptc p ++ ptcells l).length = _
    rw [List.length_append, ih, List.length_cons]
    show 4 + _ = _
    omega
theorem ptcells_snoc (l : List Pt) (p : Pt) : ptcells (l ++ [p]) = ptcells l ++ ptc p := by
  unfold ptcells; rw [List.flatMap_append]; simp
theorem ptcells_at (l : List Pt) : ∀ (k : Nat) (h : k < l.length), (ptcells l)[k * 4]? = some (.string (sb l[k].ref)) ∧ (ptcells l)[k * 4 + 1]? = some (.int .i64 l[k].lo) ∧ (ptcells l)[k * 4 + 2]? = some (.int .i64 l[k].hi) ∧ (ptcells l)[k * 4 + 3]? = some (.int .u8 (l[k].dir : Int)) := by
  induction l with
  | nil => intro k h; simp at h
  | cons p l ih =>
    intro k h
    cases k with
    | zero => exact ⟨rfl, rfl, rfl, rfl⟩
    | succ k =>
      have := ih k (by simpa using h)
      rw [show (k + 1) * 4 = k * 4 + 4 by omega]
      exact this
/-- points in memory; their strings fit, their directions are bytes -/
def PtsR (w : World) (v : Value) (l : List Pt) : Prop := Rd w 4 v l.length (ptcells l) ∧ ∀ p ∈ l, p.ref.length ≤ maxLen ∧ p.dir < 256
theorem PtsR.form {w : World} {v : Value} {l : List Pt} (h : PtsR w v l) : ∃ A c, v = .slice A l.length c ∧ l.length ≤ c ∧ c ≤ maxLen := h.1.form
theorem PtsR.below {w w' : World} {v : Value} {l : List Pt} (h : PtsR w v l) (hb : Below w.heap.size w w') : PtsR w' v l := ⟨h.1.below hb, h.2⟩
theorem PtsR.at_ {w : World} {v : Value} {l : List Pt} (h : PtsR w v l) {k : Nat} (hk : k < l.length) :
    ∃ g o c, v = .slice (some ⟨g, o, none⟩) l.length c ∧ g < w.heap.size ∧ w.cell? ⟨g, o + k * 4, none⟩ = some (.string (sb l[k].ref)) ∧ w.cell? ⟨g, o + k * 4 + 1, none⟩ = some (.int .i64 l[k].lo) ∧ w.cell? ⟨g, o + k * 4 + 2, none⟩ = some (.int .i64 l[k].hi) ∧ w.cell? ⟨g, o + k * 4 + 3, none⟩ = some (.int .u8 (l[k].dir : Int)) := by
  obtain ⟨⟨hl, A, c, hv, hc, hm, hr⟩, _⟩ := h
  obtain ⟨g, o, rfl, hg, hx⟩ := hr (by omega)
  obtain ⟨h0, h1, h2, h3⟩ := ptcells_at l k hk
  exact ⟨g, o, c, hv, hg, hx _ _ h0, hx _ _ h1, hx _ _ h2, hx _ _ h3⟩

/-- the index of the first point with a reference from place n on -/
def idxFrom (r : List UInt8) (n : Nat) : List Pt → Int
  | [] => -1
  | p :: l => if p.ref = r then n else idxFrom r (n + 1) l
def idxOf (l : List Pt) (r : List UInt8) : Int := idxFrom r 0 l
theorem idx_step {l : List Pt} {k : Nat} (r : List UInt8) (h : k < l.length) : idxFrom r k (l.drop k) = if l[k].ref = r then (k : Int) else idxFrom r (k + 1) (l.drop (k + 1)) := by
  rw [List.drop_eq_getElem_cons h]; rfl
theorem idx_end {l : List Pt} {k : Nat} (r : List UInt8) (h : l.length ≤ k) : idxFrom r k (l.drop k) = -1 := by
  rw [List.drop_eq_nil_of_le h]; rfl
set_option maxHeartbeats 400000 in
theorem same_any (t r : ByteArray) (a b : Int) (d : Nat) (B : Nat) (w : World) (hr : w.cell? ⟨B, 0, none⟩ = some (.string r)) (hB : B < w.heap.size) :
    Calls Tryz.prog 141 #[.agg #[.string t, .int .i64 a, .int .i64 b, .int .u8 (d : Int)], .pointer (some ⟨B, 0, none⟩)] w fun e w' => e = .returned (.bool (t.toList == r.toList)) ∧ Below w.heap.size w w' := by
  go_enter Tryz.func141, Tryz.ntmps141
  go_wp2
  go_ret
  exact ⟨rfl, (Below.refl _ _).alloc (Nat.le_refl _) _⟩
theorem str_eq {t r : ByteArray} : (t.toList == r.toList) = decide (bl t = bl r) := by
  rw [bl_toList, bl_toList, Bool.eq_iff_iff, beq_iff_eq, decide_eq_true_iff]
set_option maxRecDepth 100000 in
set_option maxHeartbeats 1000000 in
theorem indexFunc_any (v : Value) (l : List Pt) (r : ByteArray) (B : Nat) (w : World) (h : PtsR w v l) (hr : w.cell? ⟨B, 0, none⟩ = some (.string r)) (hB : B < w.heap.size) :
    Calls Tryz.prog 140 #[v, .func (.func 141) #[] #[.pointer (some ⟨B, 0, none⟩)]] w
      fun e w' => e = .returned (.int .i64 (idxOf l (bl r))) ∧ Below w.heap.size w w' := by
  obtain ⟨A, c, rfl, hc, hm⟩ := h.form
  unfold maxLen at hm
  have H := Lib.hid h
  clear h
  obtain ⟨n, hnn⟩ : ∃ n, l.length = n := ⟨_, rfl⟩
  rw [hnn] at hc H
  rw [hnn]
  have HN := Lib.hid hnn
  obtain ⟨x, hx⟩ : ∃ x, idxOf l (bl r) = x := ⟨_, rfl⟩
  rw [hx]
  have HX := Lib.hid hx
  clear hnn hx
  go_enter Tryz.func140, Tryz.ntmps140
  go_wp2
  go_loopw [8] (fun i wr => ∃ k : Nat, k ≤ n ∧ i = .int .i64 k ∧ Hid (idxFrom (bl r) k (l.drop k) = x) ∧ Below w.heap.size w wr) (fun i _ => n - (intOf i).toNat)
  case atStart => exact ⟨0, Nat.zero_le _, rfl, HX.out, Below.refl _ _⟩
  case round =>
    obtain ⟨k, hk, rfl, hix, hbr⟩ := hrel
    by_cases hlt : k < n
    · have hkl : k < l.length := by rw [HN.out]; exact hlt
      obtain ⟨g, o, c', hA, hg, h0, h1, h2, h3⟩ := H.out.at_ hkl
      rw [HN.out] at hA
      simp only [Value.slice.injEq, true_and] at hA
      obtain ⟨rfl, rfl⟩ := hA
      have k0 := (hbr.cell (p := ⟨g, o + k * 4, none⟩) hg).trans h0
      have k1 := (hbr.cell (p := ⟨g, o + k * 4 + 1, none⟩) hg).trans h1
      have k2 := (hbr.cell (p := ⟨g, o + k * 4 + 2, none⟩) hg).trans h2
      have k3 := (hbr.cell (p := ⟨g, o + k * 4 + 3, none⟩) hg).trans h3
      have HS := Lib.hid (idx_step (bl r) hkl)
      obtain ⟨p, hp⟩ : ∃ p, l[k] = p := ⟨_, rfl⟩
      rw [hp] at k0 k1 k2 k3 HS
      clear h0 h1 h2 h3 hp hkl
      have hr2 := (hbr.cell (p := ⟨B, 0, none⟩) hB).trans hr
      have hB2 : B < wr.heap.size := Nat.lt_of_lt_of_le hB hbr.size
      go_wp2_with fail
      refine (same_any (sb p.ref) r p.lo p.hi p.dir B _ hr2 hB2).mono ?_
      rintro e w1 ⟨rfl, hb1⟩
      have hbn := hbr.trans (hb1.mono hbr.size)
      rw [str_eq, bl_sb]
      clear hr2 hB2 k0 k1 k2 k3
      by_cases he : p.ref = bl r
      · have HE := Lib.hid he
        rw [decide_eq_true he]
        clear he
        go_wp2
        go_ret
        exact ⟨ret_int (by rw [← hix.out, HS.out, if_pos HE.out]), hbn⟩
      · have HE := Lib.hid he
        rw [decide_eq_false he]
        clear he
        go_wp2
        go_roundw
        case rel => exact ⟨k + 1, hlt, by go_num, by unfold Hid; rw [← hix.out, HS.out, if_neg HE.out], hbn⟩
        case measure => simp [intOf]; omega
    · have HE := Lib.hid (idx_end (l := l) (k := k) (bl r) (by have := HN.out; omega))
      go_wp2
      go_ret
      exact ⟨ret_int (by rw [← hix.out, HE.out]), hbr⟩
set_option maxHeartbeats 1000000 in
theorem index_any (nm r : ByteArray) (v : Value) (l : List Pt) (w : World) (h : PtsR w v l) :
    Calls Tryz.prog 90 #[.agg #[.string nm, v], .string r] w fun e w' => e = .returned (.int .i64 (idxOf l (bl r))) ∧ Below w.heap.size w w' := by
  obtain ⟨A, c, rfl, hc, hm⟩ := h.form
  go_enter Tryz.func90, Tryz.ntmps90
  go_wp2_with fail
  refine (indexFunc_any _ l r _ _ (h.below (((Below.refl _ _).alloc (Nat.le_refl _) _).alloc (by simp) _)) (by simp [go_sem]) (by simp)).mono ?_
  rintro e w1 ⟨rfl, hb1⟩
  have hbn := (((Below.refl w.heap.size w).alloc (Nat.le_refl _) (.cells #[.string nm, .slice A l.length c] 36)).alloc (by simp) (.cells #[.string r] 9)).trans (hb1.mono (by simp; omega))
  go_wp2
  go_ret
  exact ⟨rfl, hbn⟩
set_option maxRecDepth 100000 in
set_option maxHeartbeats 1000000 in
theorem rindex_any (nm r : ByteArray) (v : Value) (l : List Pt) (w : World) (h : PtsR w v l) :
    Calls Tryz.prog 108 #[.agg #[.string nm, v], .string r] w fun e w' => e = .returned (.int .i64 (idxOf l (bl r))) ∧ Below w.heap.size w w' := by
  obtain ⟨A, c, rfl, hc, hm⟩ := h.form
  unfold maxLen at hm
  have H := Lib.hid h
  clear h
  obtain ⟨n, hnn⟩ : ∃ n, l.length = n := ⟨_, rfl⟩
  rw [hnn] at hc H
  rw [hnn]
  have HN := Lib.hid hnn
  obtain ⟨x, hx⟩ : ∃ x, idxOf l (bl r) = x := ⟨_, rfl⟩
  rw [hx]
  have HX := Lib.hid hx
  clear hnn hx
  go_enter Tryz.func108, Tryz.ntmps108
  go_wp2
  go_loopw [10] (fun i wr => ∃ k : Nat, k ≤ n ∧ i = .int .i64 k ∧ Hid (idxFrom (bl r) k (l.drop k) = x) ∧ Below w.heap.size w wr) (fun i _ => n - (intOf i).toNat)
  case atStart => exact ⟨0, Nat.zero_le _, rfl, HX.out, (Below.refl _ _).alloc (Nat.le_refl _) _⟩
  case round =>
    obtain ⟨k, hk, rfl, hix, hbr⟩ := hrel
    by_cases hlt : k < n
    · have hkl : k < l.length := by rw [HN.out]; exact hlt
      obtain ⟨g, o, c', hA, hg, h0, h1, h2, h3⟩ := H.out.at_ hkl
      rw [HN.out] at hA
      simp only [Value.slice.injEq, true_and] at hA
      obtain ⟨rfl, rfl⟩ := hA
      have k0 := (hbr.cell (p := ⟨g, o + k * 4, none⟩) hg).trans h0
      have k1 := (hbr.cell (p := ⟨g, o + k * 4 + 1, none⟩) hg).trans h1
      have k2 := (hbr.cell (p := ⟨g, o + k * 4 + 2, none⟩) hg).trans h2
      have k3 := (hbr.cell (p := ⟨g, o + k * 4 + 3, none⟩) hg).trans h3
      have HS := Lib.hid (idx_step (bl r) hkl)
      obtain ⟨p, hp⟩ : ∃ p, l[k] = p := ⟨_, rfl⟩
      rw [hp] at k0 k1 k2 k3 HS
      clear h0 h1 h2 h3 hp hkl
      have hbn := hbr.alloc hbr.size (.cells #[.string (sb p.ref), .int .i64 p.lo, .int .i64 p.hi, .int .u8 (p.dir : Int)] 74)
      by_cases he : p.ref = bl r
      · have HE := Lib.hid he
        have e1 : ((sb p.ref).toList == r.toList) = true := by rw [str_eq, bl_sb, decide_eq_true he]
        clear he
        go_wp2
        go_ret
        exact ⟨ret_int (by rw [← hix.out, HS.out, if_pos HE.out]), hbn⟩
      · have HE := Lib.hid he
        have e1 : ((sb p.ref).toList == r.toList) = false := by rw [str_eq, bl_sb, decide_eq_false he]
        clear he
        go_wp2
        go_roundw
        case rel => exact ⟨k + 1, hlt, by go_num, by unfold Hid; rw [← hix.out, HS.out, if_neg HE.out], hbn⟩
        case measure => simp [intOf]; omega
    · have HE := Lib.hid (idx_end (l := l) (k := k) (bl r) (by have := HN.out; omega))
      go_wp2
      go_ret
      exact ⟨ret_int (by rw [← hix.out, HE.out]), hbr⟩
end Go.Proofs.YtinkdlmikhcpjaaGreatDoor
namespace Go.Proofs.YtinkdlmikhcpjaaGreatDoor
open Go.RowKit
set_option linter.unusedVariables false
set_option linter.unusedSimpArgs false

def winOk (lo hi : Int) : Bool := decide (-200000 ≤ lo) && decide (lo ≤ hi) && decide (hi ≤ 6000000)
def lastOk (p : Pt) : Bool := decide (p.lo = -200000) && decide (p.hi = 6000000) && decide (p.dir = 0)
/-- the first error of the point at an index -/
def ptErr (l : List Pt) (p : Pt) (i : Nat) : Int :=
  if refErr p.ref = 0 then
    if idxOf l p.ref < i then 7
    else if i + 1 = l.length then (if lastOk p then 0 else 1)
    else if winOk p.lo p.hi then (if 2 < p.dir then 17 else 0) else 2
  else 5
def chkFrom (l : List Pt) (i : Nat) : List Pt → Int
  | [] => 0
  | p :: r => if ptErr l p i = 0 then chkFrom l (i + 1) r else ptErr l p i
def chkA (nm : List UInt8) (l : List Pt) : Int :=
  if nameB nm 8 then (if l.length < 2 then 1 else if 40 < l.length then 3 else chkFrom l 0 l) else 5
theorem chk_step {l : List Pt} {k : Nat} (h : k < l.length) : chkFrom l k (l.drop k) = if ptErr l l[k] k = 0 then chkFrom l (k + 1) (l.drop (k + 1)) else ptErr l l[k] k := by
  rw [List.drop_eq_getElem_cons h]; rfl
theorem chk_end {l : List Pt} {k : Nat} (h : l.length ≤ k) : chkFrom l k (l.drop k) = 0 := by
  rw [List.drop_eq_nil_of_le h]; rfl
set_option maxHeartbeats 400000 in
theorem free_any (w : World) : Calls Tryz.prog 99 #[] w fun e w' => e = .returned (.agg #[.int .i64 (-200000), .int .i64 6000000]) ∧ w' = w.alloc (.cells #[.int .i64 (-200000), .int .i64 6000000] 72) := by
  go_enter Tryz.func99, Tryz.ntmps99
  go_wp2
  exact bodyPost_ret (v := .agg #[.int .i64 (-200000), .int .i64 6000000]) (by simp [results, Tryz.results99, go_sem]) rfl ⟨rfl, rfl⟩
set_option maxHeartbeats 400000 in
theorem rfree_any (w : World) : Calls Tryz.prog 48 #[] w fun e w' => e = .returned (.agg #[.int .i64 (-200000), .int .i64 6000000]) ∧ w' = w.alloc (.cells #[.int .i64 (-200000), .int .i64 6000000] 72) := by
  go_enter Tryz.func48, Tryz.ntmps48
  go_wp2
  exact bodyPost_ret (v := .agg #[.int .i64 (-200000), .int .i64 6000000]) (by simp [results, Tryz.results48, go_sem]) rfl ⟨rfl, rfl⟩
theorem ptErr_ref {l : List Pt} {p : Pt} {i : Nat} (h : ¬ refErr p.ref = 0) : ptErr l p i = 5 := by unfold ptErr; rw [if_neg h]
theorem ptErr_twice {l : List Pt} {p : Pt} {i : Nat} (h : refErr p.ref = 0) (h2 : idxOf l p.ref < i) : ptErr l p i = 7 := by unfold ptErr; rw [if_pos h, if_pos h2]
theorem ptErr_last {l : List Pt} {p : Pt} {i : Nat} (h : refErr p.ref = 0) (h2 : ¬ idxOf l p.ref < i) (h3 : i + 1 = l.length) : ptErr l p i = if lastOk p then 0 else 1 := by unfold ptErr; rw [if_pos h, if_neg h2, if_pos h3]
theorem ptErr_mid {l : List Pt} {p : Pt} {i : Nat} (h : refErr p.ref = 0) (h2 : ¬ idxOf l p.ref < i) (h3 : ¬ i + 1 = l.length) : ptErr l p i = if winOk p.lo p.hi then (if 2 < p.dir then 17 else 0) else 2 := by unfold ptErr; rw [if_pos h, if_neg h2, if_neg h3]
theorem ptErr_ways (l : List Pt) (p : Pt) (i : Nat) :
    (¬ refErr p.ref = 0 ∧ ptErr l p i = 5) ∨ (refErr p.ref = 0 ∧ ((idxOf l p.ref < i ∧ ptErr l p i = 7) ∨ ((i : Int) ≤ idxOf l p.ref ∧
      ((((i : Int) == (l.length : Int) - 1) = true ∧ ((p.lo = -200000 ∧ p.hi = 6000000 ∧ p.dir = 0 ∧ ptErr l p i = 0) ∨ (¬ p.lo = -200000 ∧ ptErr l p i = 1) ∨ (p.lo = -200000 ∧ ¬ p.hi = 6000000 ∧ ptErr l p i = 1) ∨ (p.lo = -200000 ∧ p.hi = 6000000 ∧ ¬ p.dir = 0 ∧ ptErr l p i = 1))) ∨
       (((i : Int) == (l.length : Int) - 1) = false ∧ ((p.lo < -200000 ∧ ptErr l p i = 2) ∨ (-200000 ≤ p.lo ∧ p.hi < p.lo ∧ ptErr l p i = 2) ∨ (-200000 ≤ p.lo ∧ p.lo ≤ p.hi ∧ 6000000 < p.hi ∧ ptErr l p i = 2) ∨ (-200000 ≤ p.lo ∧ p.lo ≤ p.hi ∧ p.hi ≤ 6000000 ∧ 2 < (p.dir : Int) ∧ ptErr l p i = 17) ∨ (-200000 ≤ p.lo ∧ p.lo ≤ p.hi ∧ p.hi ≤ 6000000 ∧ (p.dir : Int) ≤ 2 ∧ ptErr l p i = 0))))))) := by
  by_cases h : refErr p.ref = 0
  · refine .inr ⟨h, ?_⟩
    by_cases h2 : idxOf l p.ref < i
    · exact .inl ⟨h2, ptErr_twice h h2⟩
    · refine .inr ⟨by omega, ?_⟩
      by_cases h3 : i + 1 = l.length
      · refine .inl ⟨by rw [beq_iff_eq]; omega, ?_⟩
        rw [ptErr_last h h2 h3]
        unfold lastOk
        by_cases a : p.lo = -200000
        · by_cases b : p.hi = 6000000
          · by_cases c : p.dir = 0
            · exact .inl ⟨a, b, c, by simp [a, b, c]⟩
            · exact .inr (.inr (.inr ⟨a, b, c, by simp [c]⟩))
          · exact .inr (.inr (.inl ⟨a, b, by simp [b]⟩))
        · exact .inr (.inl ⟨a, by simp [a]⟩)
      · refine .inr ⟨by rw [beq_eq_false_iff_ne]; omega, ?_⟩
        rw [ptErr_mid h h2 h3]
        unfold winOk
        by_cases a : -200000 ≤ p.lo
        · by_cases b : p.lo ≤ p.hi
          · by_cases c : p.hi ≤ 6000000
            · by_cases d : 2 < p.dir
              · exact .inr (.inr (.inr (.inl ⟨a, b, c, by omega, by simp [a, b, c, d]⟩)))
              · exact .inr (.inr (.inr (.inr ⟨a, b, c, by omega, by simp [a, b, c, d]⟩)))
            · exact .inr (.inr (.inl ⟨a, b, by omega, by simp [c]⟩))
          · exact .inr (.inl ⟨a, by omega, by simp [b]⟩)
        · exact .inl ⟨by omega, by simp [a]⟩
  · exact .inl ⟨h, ptErr_ref h⟩
theorem win_neq {a b c d : Int} (h : ¬ (a = c ∧ b = d)) (w : World) : (binOp .neq 72 (.agg #[.int .i64 a, .int .i64 b]) (.agg #[.int .i64 c, .int .i64 d])).run Tryz.prog w = .ok (.bool true) w := by
  go_simp
  intro h1 h2
  exact h ⟨h1, h2⟩
/-- two boxes that the call laid: the airway's and the point's -/
structure Boxes (w w1 : World) (nm : ByteArray) (v : Value) (p : Pt) : Prop where
  size : w.heap.size + 1 < w1.heap.size
  nm : w1.cell? ⟨w.heap.size, 0, none⟩ = some (.string nm)
  pts : w1.cell? ⟨w.heap.size, 1, none⟩ = some v
  ref : w1.cell? ⟨w.heap.size + 1, 0, none⟩ = some (.string (sb p.ref))
  lo : w1.cell? ⟨w.heap.size + 1, 1, none⟩ = some (.int .i64 p.lo)
  hi : w1.cell? ⟨w.heap.size + 1, 2, none⟩ = some (.int .i64 p.hi)
  dir : w1.cell? ⟨w.heap.size + 1, 3, none⟩ = some (.int .u8 (p.dir : Int))
theorem boxes_new (w : World) (nm : ByteArray) (v : Value) (p : Pt) (t u : TypeId) (m : Nat) : Boxes w (((w.alloc (.cells #[.string nm, v] t)).alloc (.cells #[.string (sb p.ref), .int .i64 p.lo, .int .i64 p.hi, .int .u8 (p.dir : Int)] u)).drewN m) nm v p := by
  constructor <;> simp [go_sem]
theorem Boxes.below {w w1 w2 : World} {nm : ByteArray} {v : Value} {p : Pt} (h : Boxes w w1 nm v p) (hb : Below w1.heap.size w1 w2) : Boxes w w2 nm v p := by
  obtain ⟨h0, h1, h2, h3, h4, h5, h6⟩ := h
  have l0 : w.heap.size < w1.heap.size := by omega
  exact ⟨Nat.lt_of_lt_of_le h0 hb.size, (hb.cell (p := ⟨_, _, none⟩) l0).trans h1, (hb.cell (p := ⟨_, _, none⟩) l0).trans h2, (hb.cell (p := ⟨_, _, none⟩) h0).trans h3, (hb.cell (p := ⟨_, _, none⟩) h0).trans h4, (hb.cell (p := ⟨_, _, none⟩) h0).trans h5, (hb.cell (p := ⟨_, _, none⟩) h0).trans h6⟩
set_option maxRecDepth 100000 in
set_option maxHeartbeats 4000000 in
theorem checkPoint_any (nm : ByteArray) (v : Value) (l : List Pt) (i : Nat) (w : World) (h : PtsR w v l) (hi : i < l.length) :
    Calls Tryz.prog 55 #[.agg #[.string nm, v], .int .i64 (i : Int)] w fun e w' => e = .returned (.int .i64 (ptErr l l[i] i)) ∧ Below w.heap.size w w' := by
  obtain ⟨A, c, rfl, hc, hm⟩ := h.form
  unfold maxLen at hm
  obtain ⟨g, o, c', hA, hg, k0, k1, k2, k3⟩ := h.at_ hi
  simp only [Value.slice.injEq, true_and] at hA
  obtain ⟨rfl, rfl⟩ := hA
  have hp2 := h.2 _ (List.getElem_mem hi)
  have H := Lib.hid h
  obtain ⟨p, hp⟩ : ∃ p, l[i] = p := ⟨_, rfl⟩
  rw [hp] at k0 k1 k2 k3 hp2
  rw [hp]
  have hw := ptErr_ways l p i
  obtain ⟨er, he⟩ : ∃ er, ptErr l p i = er := ⟨_, rfl⟩
  rw [he] at hw
  rw [he]
  obtain ⟨n, hnn⟩ : ∃ n, l.length = n := ⟨_, rfl⟩
  rw [hnn] at hc H hi hw
  rw [hnn]
  obtain ⟨hps, hpd⟩ := hp2
  clear h hp he hnn
  have hi' : (i : Int) < (n : Int) := by omega
  go_enter Tryz.func55, Tryz.ntmps55
  go_wp2_with fail
  refine (splitRef_any (sb p.ref) _ hps).mono ?_
  rintro e1 w1 ⟨a, b, rfl, _, _, _, _, m, rfl⟩
  rw [bl_sb]
  have hB1 := Lib.hid (((((Below.refl w.heap.size w).alloc (Nat.le_refl _) (.cells #[.string nm, .slice (some ⟨g, o, none⟩) n c] 36)).alloc (by simp) (.cells #[.string (sb p.ref), .int .i64 p.lo, .int .i64 p.hi, .int .u8 (p.dir : Int)] 74)).trans (below_drewN' (Below.refl _ _) m)))
  rcases hw with ⟨h1, rfl⟩ | ⟨h1, hw⟩
  · have e1 : (refErr p.ref != 0) = true := bne_iff_ne.2 h1
    clear h1
    go_wp2
    go_ret
    exact ⟨rfl, hB1.out⟩
  rw [h1]
  have X1 := Lib.hid (boxes_new w nm (.slice (some ⟨g, o, none⟩) n c) p 36 74 m)
  clear h1
  go_wp2_with fail
  refine (index_any nm (sb p.ref) _ l _ (H.out.below hB1.out)).mono ?_
  rintro e1 w2 ⟨rfl, hb2⟩
  rw [bl_sb]
  have X2 := Lib.hid (X1.out.below hb2)
  have hB2 := Lib.hid (hB1.out.trans (hb2.mono (by simp; omega)))
  obtain ⟨ix, hix⟩ : ∃ ix, idxOf l p.ref = ix := ⟨_, rfl⟩
  rw [hix] at hw ⊢
  clear hix hb2 k0 k1 k2 k3 hB1 X1
  obtain ⟨x0, x1, x2, x3, x4, x5, x6⟩ := X2.out
  rcases hw with ⟨h2, rfl⟩ | ⟨h2, ⟨h3, hw⟩ | ⟨h3, hw⟩⟩
  · go_wp2
    go_ret
    exact ⟨rfl, hB2.out⟩
  · go_upto_region 8 with (fail)
    go_cut [43] (fun c wx => ∃ b : Bool, c = .bool b ∧ Hid (er = if b then 1 else 0) ∧ Below w.heap.size w wx)
    case first =>
      obtain ⟨pr, plo, phi, pd⟩ := p
      simp only at hw x3 x4 x5 x6
      have hbF : ∀ k, Below w.heap.size w ((w2.alloc (.cells #[.int .i64 (-200000), .int .i64 6000000] 72)).drewN k) := fun k => (hB2.out.alloc (by omega) _).trans (below_drewN' (Below.refl _ _) k)
      have HBF := Lib.hid hbF
      clear hbF
      rcases hw with ⟨rfl, rfl, rfl, rfl⟩ | ⟨c1, rfl⟩ | ⟨rfl, c2, rfl⟩ | ⟨rfl, rfl, c3, rfl⟩
      · skip
        first | go_region_with (go_at_call 99; refine (free_any _).mono ?_; rintro e w' ⟨rfl, rfl⟩) | fail
        all_goals
          go_wp2_with fail
          go_meet
          exact ⟨_, rfl, rfl, by first | exact HBF.out _ | exact below_ends (by omega) hB2.out⟩
      · have hneq := win_neq (a := plo) (b := phi) (c := -200000) (d := 6000000) (fun h => c1 h.1)
        clear c1
        first | go_region_with (go_at_call 99; refine (free_any _).mono ?_; rintro e w' ⟨rfl, rfl⟩) | fail
        all_goals
          go_wp2_with fail
          go_meet
          exact ⟨_, rfl, rfl, by first | exact HBF.out _ | exact below_ends (by omega) hB2.out⟩
      · have hneq := win_neq (a := -200000) (b := phi) (c := -200000) (d := 6000000) (fun h => c2 h.2)
        clear c2
        first | go_region_with (go_at_call 99; refine (free_any _).mono ?_; rintro e w' ⟨rfl, rfl⟩) | fail
        all_goals
          go_wp2_with fail
          go_meet
          exact ⟨_, rfl, rfl, by first | exact HBF.out _ | exact below_ends (by omega) hB2.out⟩
      · have e1 : ((pd : Int) != 0) = true := bne_iff_ne.2 (by omega)
        have e2 : ((pd : Int) == 0) = false := beq_eq_false_iff_ne.2 (by omega)
        clear c3
        first | go_region_with (go_at_call 99; refine (free_any _).mono ?_; rintro e w' ⟨rfl, rfl⟩) | fail
        all_goals
          go_wp2_with fail
          go_meet
          exact ⟨_, rfl, rfl, by first | exact HBF.out _ | exact below_ends (by omega) hB2.out⟩
    case rest =>
      obtain ⟨b, rfl, hb, hbx⟩ := hcut
      cases b
      · go_wp2
        go_ret
        exact ⟨ret_int (by rw [hb.out]; rfl), hbx⟩
      · go_wp2
        go_ret
        exact ⟨ret_int (by rw [hb.out]; rfl), hbx⟩
  · rcases hw with ⟨c1, rfl⟩ | ⟨c1, c2, rfl⟩ | ⟨c1, c2, c3, rfl⟩ | ⟨c1, c2, c3, c4, rfl⟩ | ⟨c1, c2, c3, c4, rfl⟩
    all_goals
      go_wp2
      go_ret
      exact ⟨rfl, hB2.out⟩
theorem chkA_name {nm : List UInt8} {l : List Pt} (h : nameB nm 8 = false) : chkA nm l = 5 := by unfold chkA; rw [h]; rfl
theorem chkA_few {nm : List UInt8} {l : List Pt} (h : nameB nm 8 = true) (h2 : l.length < 2) : chkA nm l = 1 := by unfold chkA; rw [h, if_pos rfl, if_pos h2]
theorem chkA_many {nm : List UInt8} {l : List Pt} (h : nameB nm 8 = true) (h2 : 40 < l.length) : chkA nm l = 3 := by unfold chkA; rw [h, if_pos rfl, if_neg (by omega), if_pos h2]
theorem chkA_pts {nm : List UInt8} {l : List Pt} (h : nameB nm 8 = true) (h2 : 2 ≤ l.length) (h3 : l.length ≤ 40) : chkA nm l = chkFrom l 0 l := by unfold chkA; rw [h, if_pos rfl, if_neg (by omega), if_neg (by omega)]
set_option maxRecDepth 100000 in
set_option maxHeartbeats 4000000 in
theorem check_any (nm : ByteArray) (v : Value) (l : List Pt) (w : World) (h : PtsR w v l) (hnm : nm.size ≤ maxLen) :
    Calls Tryz.prog 17 #[.agg #[.string nm, v]] w fun e w' => e = .returned (.int .i64 (chkA (bl nm) l)) ∧ Below w.heap.size w w' := by
  obtain ⟨A, c, rfl, hc, hm⟩ := h.form
  unfold maxLen at hm
  have H := Lib.hid h
  clear h
  obtain ⟨n, hnn⟩ : ∃ n, l.length = n := ⟨_, rfl⟩
  rw [hnn] at hc H
  rw [hnn]
  have HN := Lib.hid hnn
  obtain ⟨x, hx⟩ : ∃ x, chkA (bl nm) l = x := ⟨_, rfl⟩
  rw [hx]
  have HXX := Lib.hid hx
  clear hnn hx
  go_enter Tryz.func17, Tryz.ntmps17
  go_wp2_with fail
  refine (name_any nm 8 _ hnm).mono ?_
  rintro e1 w1 ⟨rfl, rfl⟩
  have hB0 := Lib.hid ((Below.refl w.heap.size w).alloc (Nat.le_refl _) (.cells #[.string nm, .slice A n c] 36))
  cases hname : nameB (bl nm) 8
  · have HM := Lib.hid hname
    clear hname
    go_wp2
    go_ret
    exact ⟨ret_int ((chkA_name HM.out).symm.trans HXX.out), hB0.out⟩
  have HM := Lib.hid hname
  clear hname
  rcases (show n < 2 ∨ (2 ≤ n ∧ 40 < n) ∨ (2 ≤ n ∧ n ≤ 40) by omega) with h2 | ⟨h2, h40⟩ | ⟨h2, h40⟩
  · have h2' : (n : Int) < 2 := by omega
    go_wp2
    go_ret
    exact ⟨ret_int ((chkA_few HM.out (by rw [HN.out]; exact h2)).symm.trans HXX.out), hB0.out⟩
  · have h2' : (2 : Int) ≤ (n : Int) := by omega
    have h40' : (40 : Int) < (n : Int) := by omega
    go_wp2
    go_ret
    exact ⟨ret_int ((chkA_many HM.out (by rw [HN.out]; exact h40)).symm.trans HXX.out), hB0.out⟩
  · have h2' : (2 : Int) ≤ (n : Int) := by omega
    have h40' : (n : Int) ≤ 40 := by omega
    have HX := Lib.hid ((chkA_pts HM.out (by rw [HN.out]; exact h2) (by rw [HN.out]; exact h40)).symm.trans HXX.out)
    go_wp2
    go_loopw [23] (fun i wr => ∃ k : Nat, k ≤ n ∧ i = .int .i64 k ∧ Hid (chkFrom l k (l.drop k) = x) ∧ Below w.heap.size w wr ∧ Below (w.heap.size + 1) (w.alloc (.cells #[.string nm, .slice A n c] 36)) wr) (fun i _ => n - (intOf i).toNat)
    case atStart => exact ⟨0, Nat.zero_le _, rfl, HX.out, hB0.out, Below.refl _ _⟩
    case round =>
      obtain ⟨k, hk, rfl, hix, hbr, hbx⟩ := hrel
      by_cases hlt : k < n
      · have hkl : k < l.length := by rw [HN.out]; exact hlt
        have HS := Lib.hid (chk_step hkl)
        have b0 : wr.cell? ⟨w.heap.size, 0, none⟩ = some (.string nm) := (hbx.cell (p := ⟨w.heap.size, 0, none⟩) (by simp)).trans (by simp [go_sem])
        have b1 : wr.cell? ⟨w.heap.size, 1, none⟩ = some (.slice A n c) := (hbx.cell (p := ⟨w.heap.size, 1, none⟩) (by simp)).trans (by simp [go_sem])
        have bs : w.heap.size < wr.heap.size := Nat.lt_of_lt_of_le (by simp) hbx.size
        go_wp2_with fail
        refine (checkPoint_any nm _ l k _ (H.out.below hbr) hkl).mono ?_
        rintro e1 w2 ⟨rfl, hb2⟩
        have hbn := hbr.trans (hb2.mono hbr.size)
        have hbn2 := hbx.trans (hb2.mono bs)
        obtain ⟨er, he⟩ : ∃ er, ptErr l l[k] k = er := ⟨_, rfl⟩
        rw [he] at HS ⊢
        clear he hkl b0 b1
        by_cases h0 : er = 0
        · have e1 : (er != 0) = false := by rw [h0]; rfl
          have H0 := Lib.hid h0
          clear h0
          go_wp2
          go_roundw
          case rel => exact ⟨k + 1, hlt, by go_num, by unfold Hid; rw [← hix.out, HS.out, if_pos H0.out], hbn, hbn2⟩
          case measure => simp [intOf]; omega
        · have e1 : (er != 0) = true := bne_iff_ne.2 h0
          have H0 := Lib.hid h0
          clear h0
          go_wp2
          go_ret
          exact ⟨ret_int (by rw [← hix.out, HS.out, if_neg H0.out]), hbn⟩
      · have HE := Lib.hid (chk_end (l := l) (k := k) (by have := HN.out; omega))
        go_wp2
        go_ret
        exact ⟨ret_int (by rw [← hix.out, HE.out]), hbr⟩

set_option maxRecDepth 100000 in
set_option maxHeartbeats 8000000 in
theorem rcheck_any (nm : ByteArray) (v : Value) (l : List Pt) (w : World) (h : PtsR w v l) (hnm : nm.size ≤ maxLen) :
    Calls Tryz.prog 53 #[.agg #[.string nm, v]] w fun e w' => e = .returned (.int .i64 (chkA (bl nm) l)) ∧ Below w.heap.size w w' := by
  obtain ⟨A, c, rfl, hc, hm⟩ := h.form
  unfold maxLen at hm
  have H := Lib.hid h
  clear h
  obtain ⟨n, hnn⟩ : ∃ n, l.length = n := ⟨_, rfl⟩
  rw [hnn] at hc H
  rw [hnn]
  have HN := Lib.hid hnn
  obtain ⟨x, hx⟩ : ∃ x, chkA (bl nm) l = x := ⟨_, rfl⟩
  rw [hx]
  have HXX := Lib.hid hx
  clear hnn hx
  go_enter Tryz.func53, Tryz.ntmps53
  go_wp2_with fail
  refine (rname_any nm 8 _ hnm).mono ?_
  rintro e1 w1 ⟨rfl, rfl⟩
  have hB0 := Lib.hid ((Below.refl w.heap.size w).alloc (Nat.le_refl _) (.cells #[.string nm, .slice A n c] 36))
  cases hname : nameB (bl nm) 8
  · have HM := Lib.hid hname
    clear hname
    go_wp2
    go_ret
    exact ⟨ret_int ((chkA_name HM.out).symm.trans HXX.out), hB0.out⟩
  have HM := Lib.hid hname
  clear hname
  rcases (show n < 2 ∨ (2 ≤ n ∧ 40 < n) ∨ (2 ≤ n ∧ n ≤ 40) by omega) with h2 | ⟨h2, h40⟩ | ⟨h2, h40⟩
  · have h2' : (n : Int) < 2 := by omega
    go_wp2
    go_ret
    exact ⟨ret_int ((chkA_few HM.out (by rw [HN.out]; exact h2)).symm.trans HXX.out), hB0.out⟩
  · have h2' : (2 : Int) ≤ (n : Int) := by omega
    have h40' : (40 : Int) < (n : Int) := by omega
    go_wp2
    go_ret
    exact ⟨ret_int ((chkA_many HM.out (by rw [HN.out]; exact h40)).symm.trans HXX.out), hB0.out⟩
  · have h2' : (2 : Int) ≤ (n : Int) := by omega
    have h40' : (n : Int) ≤ 40 := by omega
    have HX := Lib.hid ((chkA_pts HM.out (by rw [HN.out]; exact h2) (by rw [HN.out]; exact h40)).symm.trans HXX.out)
    go_wp2
    go_loopw [26] (fun i wr => ∃ k : Nat, k ≤ n ∧ i = .int .i64 k ∧ Hid (chkFrom l k (l.drop k) = x) ∧ Below w.heap.size w wr ∧ Below (w.heap.size + 1) (w.alloc (.cells #[.string nm, .slice A n c] 36)) wr) (fun i _ => n - (intOf i).toNat)
    case atStart => exact ⟨0, Nat.zero_le _, rfl, HX.out, hB0.out, Below.refl _ _⟩
    case round =>
      obtain ⟨k, hk, rfl, hix, hbr, hbx⟩ := hrel
      by_cases hlt : k < n
      · have hkl : k < l.length := by rw [HN.out]; exact hlt
        have HS := Lib.hid (chk_step hkl)
        have b0 : wr.cell? ⟨w.heap.size, 0, none⟩ = some (.string nm) := (hbx.cell (p := ⟨w.heap.size, 0, none⟩) (by simp)).trans (by simp [go_sem])
        have b1 : wr.cell? ⟨w.heap.size, 1, none⟩ = some (.slice A n c) := (hbx.cell (p := ⟨w.heap.size, 1, none⟩) (by simp)).trans (by simp [go_sem])
        have bs : w.heap.size < wr.heap.size := Nat.lt_of_lt_of_le (by simp) hbx.size
        obtain ⟨g, o, c', hA, hg, h0, h1, h2x, h3x⟩ := H.out.at_ hkl
        rw [HN.out] at hA
        simp only [Value.slice.injEq, true_and] at hA
        obtain ⟨rfl, rfl⟩ := hA
        have k0 := (hbr.cell (p := ⟨g, o + k * 4, none⟩) hg).trans h0
        have k1 := (hbr.cell (p := ⟨g, o + k * 4 + 1, none⟩) hg).trans h1
        have k2 := (hbr.cell (p := ⟨g, o + k * 4 + 2, none⟩) hg).trans h2x
        have k3 := (hbr.cell (p := ⟨g, o + k * 4 + 3, none⟩) hg).trans h3x
        have hp2 := H.out.2 _ (List.getElem_mem hkl)
        have hw := ptErr_ways l l[k] k
        obtain ⟨p, hp⟩ : ∃ p, l[k] = p := ⟨_, rfl⟩
        rw [hp] at k0 k1 k2 k3 hp2 hw HS
        obtain ⟨er, he⟩ : ∃ er, ptErr l p k = er := ⟨_, rfl⟩
        rw [he] at hw HS
        rw [HN.out] at hw
        obtain ⟨hps, hpd⟩ := hp2
        clear h0 h1 h2x h3x hp hkl he hg
        have FIN : Hid (er ≠ 0 → er = x) := fun h => by rw [← hix.out, HS.out, if_neg h]
        have NXT : Hid (er = 0 → chkFrom l (k + 1) (l.drop (k + 1)) = x) := fun h => by rw [← hix.out, HS.out, if_pos h]
        have hBa := Lib.hid (hbr.alloc hbr.size (.cells #[.string (sb p.ref), .int .i64 p.lo, .int .i64 p.hi, .int .u8 (p.dir : Int)] 74))
        have hBx := Lib.hid (hbx.alloc bs (.cells #[.string (sb p.ref), .int .i64 p.lo, .int .i64 p.hi, .int .u8 (p.dir : Int)] 74))
        clear hix HS
        go_wp2_with fail
        refine (rsplitRef_any (sb p.ref) _ hps).mono ?_
        rintro e1 w1 ⟨ra, rb, rfl, _, _, _, _, m, rfl⟩
        rw [bl_sb]
        have hBa := Lib.hid (hBa.out.trans (below_drewN' (Below.refl _ _) m))
        have hBx := Lib.hid (hBx.out.trans (below_drewN' (Below.refl _ _) m))
        rcases hw with ⟨h1, rfl⟩ | ⟨h1, hw⟩
        · have e1 : (refErr p.ref != 0) = true := bne_iff_ne.2 h1
          clear h1
          go_wp2
          go_ret
          exact ⟨ret_int (FIN.out (by decide)), hBa.out⟩
        rw [h1]
        clear h1 k0 k1 k2 k3
        go_wp2_with fail
        refine (rindex_any nm (sb p.ref) _ l _ (H.out.below hBa.out)).mono ?_
        rintro e1 w2 ⟨rfl, hb2⟩
        rw [bl_sb]
        have hB2 := Lib.hid (hBa.out.trans (hb2.mono (by simp; omega)))
        have hX2 := Lib.hid (hBx.out.trans (hb2.mono (by simp; omega)))
        have y0 : wr.heap.size < w2.heap.size := Nat.lt_of_lt_of_le (by simp) hb2.size
        have y1 : w2.cell? ⟨wr.heap.size, 0, none⟩ = some (.string (sb p.ref)) := (hb2.cell (p := ⟨wr.heap.size, 0, none⟩) (by simp)).trans (by simp [go_sem])
        have y2 : w2.cell? ⟨wr.heap.size, 1, none⟩ = some (.int .i64 p.lo) := (hb2.cell (p := ⟨wr.heap.size, 1, none⟩) (by simp)).trans (by simp [go_sem])
        have y3 : w2.cell? ⟨wr.heap.size, 2, none⟩ = some (.int .i64 p.hi) := (hb2.cell (p := ⟨wr.heap.size, 2, none⟩) (by simp)).trans (by simp [go_sem])
        have y4 : w2.cell? ⟨wr.heap.size, 3, none⟩ = some (.int .u8 (p.dir : Int)) := (hb2.cell (p := ⟨wr.heap.size, 3, none⟩) (by simp)).trans (by simp [go_sem])
        have b0 : w2.cell? ⟨w.heap.size, 0, none⟩ = some (.string nm) := (hX2.out.cell (p := ⟨w.heap.size, 0, none⟩) (by simp)).trans (by simp [go_sem])
        have b1 : w2.cell? ⟨w.heap.size, 1, none⟩ = some (.slice (some ⟨g, o, none⟩) n c) := (hX2.out.cell (p := ⟨w.heap.size, 1, none⟩) (by simp)).trans (by simp [go_sem])
        have bs2 : w.heap.size < w2.heap.size := by omega
        obtain ⟨ix, hix⟩ : ∃ ix, idxOf l p.ref = ix := ⟨_, rfl⟩
        rw [hix] at hw ⊢
        clear hix hb2 hBa hBx
        rcases hw with ⟨h2, rfl⟩ | ⟨h2, ⟨h3, hw⟩ | ⟨h3, hw⟩⟩
        · go_wp2
          go_ret
          exact ⟨ret_int (FIN.out (by decide)), hB2.out⟩
        · go_upto_region 16 with (fail)
          obtain ⟨pr, plo, phi, pd⟩ := p
          simp only at hw y1 y2 y3 y4
          have HBF := Lib.hid (fun (k : Nat) => (hB2.out.alloc (Nat.le_of_lt bs2) (.cells #[.int .i64 (-200000), .int .i64 6000000] 72)).trans (below_drewN' (Below.refl _ _) k))
          have HXF := Lib.hid (fun (k : Nat) => (hX2.out.alloc bs2 (.cells #[.int .i64 (-200000), .int .i64 6000000] 72)).trans (below_drewN' (Below.refl _ _) k))
          rcases hw with ⟨rfl, rfl, rfl, rfl⟩ | ⟨c1, rfl⟩ | ⟨rfl, c2, rfl⟩ | ⟨rfl, rfl, c3, rfl⟩
          · first | go_region_with (go_at_call 48; refine (rfree_any _).mono ?_; rintro e w' ⟨rfl, rfl⟩) | fail
            all_goals
              go_wp2
              go_roundw
              case rel => exact ⟨k + 1, hlt, by go_num, NXT.out (by first | trivial | rfl), HBF.out _, HXF.out _⟩
              case measure => simp [intOf]; omega
          · have hneq := win_neq (a := plo) (b := phi) (c := -200000) (d := 6000000) (fun h => c1 h.1)
            clear c1
            first | go_region_with (go_at_call 48; refine (rfree_any _).mono ?_; rintro e w' ⟨rfl, rfl⟩) | fail
            all_goals
              go_wp2
              go_ret
              exact ⟨ret_int (FIN.out (by decide)), HBF.out _⟩
          · have hneq := win_neq (a := -200000) (b := phi) (c := -200000) (d := 6000000) (fun h => c2 h.2)
            clear c2
            first | go_region_with (go_at_call 48; refine (rfree_any _).mono ?_; rintro e w' ⟨rfl, rfl⟩) | fail
            all_goals
              go_wp2
              go_ret
              exact ⟨ret_int (FIN.out (by decide)), HBF.out _⟩
          · have e1 : ((pd : Int) != 0) = true := bne_iff_ne.2 (by omega)
            have e2 : ((pd : Int) == 0) = false := beq_eq_false_iff_ne.2 (by omega)
            clear c3
            first | go_region_with (go_at_call 48; refine (rfree_any _).mono ?_; rintro e w' ⟨rfl, rfl⟩) | fail
            all_goals
              go_wp2
              go_ret
              exact ⟨ret_int (FIN.out (by decide)), HBF.out _⟩
        · rcases hw with ⟨c1, rfl⟩ | ⟨c1, c2, rfl⟩ | ⟨c1, c2, c3, rfl⟩ | ⟨c1, c2, c3, c4, rfl⟩ | ⟨c1, c2, c3, c4, rfl⟩
          · go_wp2
            go_ret
            exact ⟨ret_int (FIN.out (by decide)), hB2.out⟩
          · have c5 : p.hi ≤ 6000000 ∨ 6000000 < p.hi := by omega
            rcases c5 with c5 | c5
            all_goals
              go_wp2
              go_ret
              exact ⟨ret_int (FIN.out (by decide)), hB2.out⟩
          · go_wp2
            go_ret
            exact ⟨ret_int (FIN.out (by decide)), hB2.out⟩
          · go_wp2
            go_ret
            exact ⟨ret_int (FIN.out (by decide)), hB2.out⟩
          · go_wp2
            go_roundw
            case rel => exact ⟨k + 1, hlt, by go_num, NXT.out (by first | trivial | rfl), hB2.out, hX2.out⟩
            case measure => simp [intOf]; omega
      · have HE := Lib.hid (chk_end (l := l) (k := k) (by have := HN.out; omega))
        go_wp2
        go_ret
        exact ⟨ret_int (by rw [← hix.out, HE.out]), hbr⟩
end Go.Proofs.YtinkdlmikhcpjaaGreatDoor
namespace Go.Proofs.YtinkdlmikhcpjaaGreatDoor
open Go.RowKit
set_option linter.unusedVariables false
set_option linter.unusedSimpArgs false

def rfcells (l : List (List UInt8)) : List Value := l.map fun x => .string (sb x)
theorem rfcells_snoc (l : List (List UInt8)) (x : List UInt8) : rfcells (l ++ [x]) = rfcells l ++ [.string (sb x)] := by
  unfold rfcells; rw [List.map_append]; rfl
def comL (l m : List Pt) : List (List UInt8) := (l.filter fun p => decide (0 ≤ idxOf m p.ref)).map (·.ref)
theorem com_step {l m : List Pt} {k : Nat} (h : k < l.length) : comL (l.take (k + 1)) m = comL (l.take k) m ++ if 0 ≤ idxOf m l[k].ref then [l[k].ref] else [] := by
  unfold comL
  rw [List.take_succ_eq_append_getElem h, List.filter_append, List.map_append]
  by_cases hc : 0 ≤ idxOf m l[k].ref
  · rw [if_pos hc, List.filter_cons_of_pos (by simpa using hc)]; rfl
  · rw [if_neg hc, List.filter_cons_of_neg (by simpa using hc)]; rfl
theorem com_len (l m : List Pt) (k : Nat) : (comL (l.take k) m).length ≤ k := by
  unfold comL
  rw [List.length_map]
  exact Nat.le_trans (List.length_filter_le _ _) (List.length_take_le _ _)
/-- texts in memory -/
def StrR (w : World) (v : Value) (l : List (List UInt8)) : Prop := Rd w 1 v l.length (rfcells l)
def ComPost (l m : List Pt) (w : World) (e : Ending) (w' : World) : Prop := ∃ v, e = .returned v ∧ StrR w' v (comL l m) ∧ Below w.heap.size w w'
end Go.Proofs.YtinkdlmikhcpjaaGreatDoor
namespace Go.Proofs.YtinkdlmikhcpjaaGreatDoor
open Go.RowKit
set_option linter.unusedVariables false
set_option linter.unusedSimpArgs false

def noPt : Pt := ⟨[], 0, 0, 0⟩
/-- the points on the way from place i to place j, so many steps; none: a segment is closed -/
def expGo (l : List Pt) (j : Nat) : Nat → Nat → List Pt → Option (List Pt)
  | 0, _, out => some out
  | f + 1, i, out =>
    if i < j then
      (if (l.getD i noPt).dir = 2 then none else expGo l j f (i + 1) (out ++ [⟨(l.getD (i + 1) noPt).ref, (l.getD i noPt).lo, (l.getD i noPt).hi, 0⟩]))
    else
      (if (l.getD (i - 1) noPt).dir = 1 then none else expGo l j f (i - 1) (out ++ [⟨(l.getD (i - 1) noPt).ref, (l.getD (i - 1) noPt).lo, (l.getD (i - 1) noPt).hi, 0⟩]))
def expRes (l : List Pt) (i j : Nat) : Option (List Pt) := expGo l j (i - j + (j - i)) i []
def expR (o : Option (List Pt)) : List Pt × Int := match o with | some o => (o, 0) | none => ([], 9)
def expOut (nm : List UInt8) (l : List Pt) (f t : List UInt8) : List Pt × Int :=
  if chkA nm l = 0 then
    if idxOf l f < 0 ∨ idxOf l t < 0 then ([], 6) else if idxOf l f = idxOf l t then ([], 1)
    else expR (expRes l (idxOf l f).toNat (idxOf l t).toNat)
  else ([], chkA nm l)
theorem idxFrom_ge (r : List UInt8) : ∀ (l : List Pt) (n : Nat), idxFrom r n l = -1 ∨ ((n : Int) ≤ idxFrom r n l ∧ idxFrom r n l < n + l.length)
  | [], n => .inl rfl
  | p :: l, n => by
    unfold idxFrom
    split
    · right; simp only [List.length_cons]; omega
    · rcases idxFrom_ge r l (n + 1) with h | h
      · exact .inl h
      · right; simp only [List.length_cons]; omega
theorem idxOf_bd (l : List Pt) (r : List UInt8) : idxOf l r < 0 ∨ ∃ k : Nat, idxOf l r = k ∧ k < l.length := by
  rcases idxFrom_ge r l 0 with h | h
  · left; unfold idxOf; omega
  · right; exact ⟨(idxOf l r).toNat, by unfold idxOf; omega, by unfold idxOf; omega⟩
def ExpPost (nm : List UInt8) (l : List Pt) (f t : List UInt8) (w : World) (e : Ending) (w' : World) : Prop :=
  ∃ v, e = .returned (.tuple #[v, .int .i64 (expOut nm l f t).2]) ∧ PtsR w' v (expOut nm l f t).1 ∧ Below w.heap.size w w'
theorem ptsR_nil (w : World) : PtsR w (.slice none 0 0) [] := ⟨Rd.nil w 4, fun p h => by cases h⟩
theorem expPost {nm : List UInt8} {l : List Pt} {f t : List UInt8} {w w' : World} {v : Value} {er : Int} {o : List Pt} (h : expOut nm l f t = (o, er)) (hv : PtsR w' v o) (hb : Below w.heap.size w w') : ExpPost nm l f t w (.returned (.tuple #[v, .int .i64 er])) w' :=
  ⟨v, by rw [h], by rw [h]; exact hv, hb⟩
theorem chk_small {nm : List UInt8} {l : List Pt} (h : chkA nm l = 0) : l.length ≤ 40 := by
  unfold chkA at h
  split at h
  · split at h
    · cases h
    · split at h
      · cases h
      · omega
  · cases h
theorem exp_fwd {l : List Pt} {j f i : Nat} {out : List Pt} (h : i < j) (h1 : i < l.length) (h2 : i + 1 < l.length) : expGo l j (f + 1) i out = if l[i].dir = 2 then none else expGo l j f (i + 1) (out ++ [⟨l[i + 1].ref, l[i].lo, l[i].hi, 0⟩]) := by
  rw [expGo, if_pos h, List.getD_eq_getElem?_getD, List.getD_eq_getElem?_getD, List.getElem?_eq_getElem h1, List.getElem?_eq_getElem h2]; rfl
theorem exp_back {l : List Pt} {j f i : Nat} {out : List Pt} (h : ¬ i < j) (h1 : i - 1 < l.length) : expGo l j (f + 1) i out = if l[i - 1].dir = 1 then none else expGo l j f (i - 1) (out ++ [⟨l[i - 1].ref, l[i - 1].lo, l[i - 1].hi, 0⟩]) := by
  rw [expGo, if_neg h, List.getD_eq_getElem?_getD, List.getElem?_eq_getElem h1]; rfl
theorem infoPt : (Tryz.prog.info? 74).map (fun i => (i.zero, i.size, i.bytes)) = some (some (.agg #[.string ⟨#[]⟩, .int .i64 0, .int .i64 0, .int .u8 0]), 4, 40) := by kernel_rfl
def PtOk (p : Pt) : Prop := p.ref.length ≤ maxLen ∧ p.dir < 256
/-- the world behind the airway's box -/
def BoxQ (w : World) (nm : ByteArray) (v : Value) (w1 : World) : Prop := Below (w.heap.size + 1) (w.alloc (.cells #[.string nm, v] 36)) w1
section
variable {w w1 w2 : World} {nm : ByteArray} {v : Value} {l : List Pt}
theorem BoxQ.below (h : BoxQ w nm v w1) : Below w.heap.size w w1 := ((Below.refl w.heap.size w).alloc (Nat.le_refl _) _).trans (Below.mono h (by omega))
theorem BoxQ.size (h : BoxQ w nm v w1) : w.heap.size < w1.heap.size := by have := Below.size h; simp at this; omega
theorem BoxQ.pts (h : BoxQ w nm v w1) (hp : Hid (PtsR w v l)) : PtsR w1 v l := hp.out.below h.below
theorem BoxQ.c0 (h : BoxQ w nm v w1) : w1.cell? ⟨w.heap.size, 0, none⟩ = some (.string nm) := (Below.cell h (p := ⟨w.heap.size, 0, none⟩) (by simp)).trans (by simp [go_sem])
theorem BoxQ.c1 (h : BoxQ w nm v w1) : w1.cell? ⟨w.heap.size, 1, none⟩ = some v := (Below.cell h (p := ⟨w.heap.size, 1, none⟩) (by simp)).trans (by simp [go_sem])
theorem BoxQ.then_ (h : BoxQ w nm v w1) (hb : Below w1.heap.size w1 w2) : BoxQ w nm v w2 := Below.trans h (hb.mono h.size)
theorem BoxQ.drew (h : BoxQ w nm v w1) : BoxQ w nm v w1.drew := h.then_ (Below.refl _ _).drew
theorem BoxQ.drewN (h : BoxQ w nm v w1) (k : Nat) : BoxQ w nm v (w1.drewN k) := h.then_ (below_drewN' (Below.refl _ _) k)
end
set_option maxRecDepth 100000 in
set_option maxHeartbeats 4000000 in
theorem expand_any (nm f t : ByteArray) (v : Value) (l : List Pt) (w : World) (h : PtsR w v l) (hnm : nm.size ≤ maxLen) :
    Calls Tryz.prog 36 #[.agg #[.string nm, v], .string f, .string t] w (ExpPost (bl nm) l (bl f) (bl t) w) := by
  obtain ⟨A, c, rfl, hc, hm⟩ := h.form
  unfold maxLen at hm
  have H := Lib.hid h
  clear h
  obtain ⟨n, hnn⟩ : ∃ n, l.length = n := ⟨_, rfl⟩
  rw [hnn] at hc H
  rw [hnn]
  have HN := Lib.hid hnn
  clear hnn
  obtain ⟨r, hr⟩ : ∃ r, expOut (bl nm) l (bl f) (bl t) = r := ⟨_, rfl⟩
  have HR := Lib.hid hr
  have hpost : ∀ (er : Int) (o : List Pt) (v' : Value) (w' : World), r = (o, er) → PtsR w' v' o → Below w.heap.size w w' → ExpPost (bl nm) l (bl f) (bl t) w (.returned (.tuple #[v', .int .i64 er])) w' := fun er o v' w' h1 h2 h3 => expPost (hr.trans h1) h2 h3
  have HPOST := Lib.hid hpost
  clear hr hpost
  have Q0 : Hid (BoxQ w nm (.slice A n c) (w.alloc (.cells #[.string nm, .slice A n c] 36))) := Below.refl _ _
  go_enter Tryz.func36, Tryz.ntmps36
  go_wp2_with fail
  refine (check_any nm _ l _ (Q0.out.pts H) hnm).mono ?_
  rintro e1 w1 ⟨rfl, hb1⟩
  have Q1 := Lib.hid (Q0.out.then_ hb1)
  have b0 := Q1.out.c0
  have b1 := Q1.out.c1
  have bs := Q1.out.size
  clear hb1
  obtain ⟨ch, hch⟩ : ∃ ch, chkA (bl nm) l = ch := ⟨_, rfl⟩
  rw [hch]
  have HC := Lib.hid hch
  clear hch
  by_cases h0 : ch = 0
  · have e1 : (ch != 0) = false := by rw [h0]; rfl
    have H0 := Lib.hid h0
    clear h0
    go_upto_region 4 with (fail)
    go_cut [9, 10] (fun a b wx => a = .int .i64 (idxOf l (bl f)) ∧ b = .int .i64 (idxOf l (bl t)) ∧ Hid (BoxQ w nm (.slice A n c) wx))
    case first =>
      first
        | go_region_with (go_at_call 90; refine (index_any _ _ _ l _ (by first | exact (Q1.out.drew).pts H | exact Q1.out.pts H | exact (Q1.out.drewN _).pts H)).mono ?_; rintro e w2 ⟨rfl, hbq⟩; have Q1 := Lib.hid (by first | exact Q1.out.drew.then_ hbq | exact Q1.out.then_ hbq | exact (Q1.out.drewN _).then_ hbq : BoxQ w nm (.slice A n c) w2); have b0 := Q1.out.c0; have b1 := Q1.out.c1; have bs := Q1.out.size; clear hbq)
        | fail
      all_goals
        go_wp2
        go_meet
        exact ⟨rfl, rfl, Q1⟩
    case rest =>
      obtain ⟨rfl, rfl, hbx⟩ := hcut
      have Q2 := hbx
      have b0 := Q2.out.c0
      have b1 := Q2.out.c1
      have bs := Q2.out.size
      have hF := idxOf_bd l (bl f)
      have hT := idxOf_bd l (bl t)
      obtain ⟨x, hx⟩ : ∃ x, idxOf l (bl f) = x := ⟨_, rfl⟩
      obtain ⟨y, hy⟩ : ∃ y, idxOf l (bl t) = y := ⟨_, rfl⟩
      have HX : Hid (r = (if x < 0 ∨ y < 0 then ([], 6) else if x = y then ([], 1) else expR (expRes l x.toNat y.toNat))) := by
        unfold Hid; rw [← HR.out]; unfold expOut; rw [if_pos (by rw [HC.out]; exact H0.out), hx, hy]
      rw [hx] at hF ⊢
      rw [hy] at hT ⊢
      clear hx hy hbx Q1
      rcases hF with hF | ⟨i0, rfl, hi0⟩
      · go_wp2
        go_ret2
        exact HPOST.out _ _ _ _ (by rw [HX.out, if_pos (.inl hF)]) (ptsR_nil _) Q2.out.below
      rcases hT with hT | ⟨j, rfl, hj⟩
      · go_wp2
        go_ret2
        exact HPOST.out _ _ _ _ (by rw [HX.out, if_pos (.inr hT)]) (ptsR_nil _) Q2.out.below
      have HN40 := Lib.hid (chk_small (HC.out.trans H0.out))
      by_cases hij : i0 = j
      · subst hij
        go_wp2
        go_ret2
        exact HPOST.out _ _ _ _ (by rw [HX.out, if_neg (by omega)]; simp) (ptsR_nil _) Q2.out.below
      have HX2 : Hid (r = expR (expGo l j (i0 - j + (j - i0)) i0 [])) := by
        unfold Hid; rw [HX.out, if_neg (by omega), if_neg (by omega)]; rfl
      have hne : ((i0 : Int) == (j : Int)) = false := beq_eq_false_iff_ne.2 (by omega)
      obtain ⟨ip, hip, hz0, hz1, hz2⟩ := info_parts infoPt
      clear HX hij
      go_wp2
      go_loopw [9, 11] (fun iv ov wr => ∃ (i k : Nat) (out : List Pt), i < l.length ∧ iv = .int .i64 i ∧ k = (i - j) + (j - i) ∧ wr.ownsRow (w.heap.size + 1) 74 4 ov out.length (ptcells out) ∧ out.length + k ≤ 40 ∧ Hid (BoxQ w nm (.slice A n c) wr) ∧ Hid (∀ p ∈ out, PtOk p) ∧ Hid (r = expR (expGo l j k i out))) (fun iv _ _ => ((intOf iv).toNat - j) + (j - (intOf iv).toNat))
      case atStart => exact ⟨i0, _, [], hi0, rfl, rfl, World.ownsRow_nil _ _ _ _, by have := HN40.out; simp; omega, Q2, (fun p h => by cases h), HX2.out⟩
      case round =>
        obtain ⟨i, k, out, hi, rfl, hk, hown, hol, Q3, hok, hgo⟩ := hrel
        have HK := Lib.hid hk
        have b0 := Q3.out.c0
        have b1 := Q3.out.c1
        have bs := Q3.out.size
        rcases Nat.lt_trichotomy i j with hlt | heq | hgt
        · obtain ⟨k, rfl⟩ : ∃ k', k = k' + 1 := ⟨k - 1, by omega⟩
          clear hk
          have hn1 : i + 1 < l.length := by omega
          have hgo2 := hgo.out
          rw [exp_fwd hlt hi hn1] at hgo2
          obtain ⟨g, o, cx, hA, hg, x0, x1, x2, x3⟩ := H.out.at_ hi
          obtain ⟨g', o', cx', hA', hg', z0, z1, z2, z3⟩ := H.out.at_ hn1
          rw [HN.out] at hA hA'
          simp only [Value.slice.injEq, true_and] at hA hA'
          obtain ⟨rfl, rfl⟩ := hA
          obtain ⟨hA', rfl⟩ := hA'
          simp only [Option.some.injEq, Addr.mk.injEq, and_true] at hA'
          obtain ⟨rfl, rfl⟩ := hA'
          have hbw := Q3.out.below
          have y1 := (hbw.cell (p := ⟨g, o + i * 4 + 1, none⟩) hg).trans x1
          have y2 := (hbw.cell (p := ⟨g, o + i * 4 + 2, none⟩) hg).trans x2
          have y3 := (hbw.cell (p := ⟨g, o + i * 4 + 3, none⟩) hg).trans x3
          have y4 := (hbw.cell (p := ⟨g, o + (i + 1) * 4, none⟩) hg).trans z0
          have hpo := H.out.2 _ (List.getElem_mem hn1)
          obtain ⟨p, hp⟩ : ∃ p, l[i] = p := ⟨_, rfl⟩
          obtain ⟨q, hq⟩ : ∃ q, l[i + 1] = q := ⟨_, rfl⟩
          rw [hp] at y1 y2 y3 hgo2
          rw [hq] at y4 hgo2 hpo
          have HGO := Lib.hid hgo2
          clear hgo hgo2 x0 x1 x2 x3 z0 z1 z2 z3 hp hq hbw
          have hii : (i : Int) < (n : Int) := by have := HN.out; omega
          have hii2 : (i : Int) + 1 < (n : Int) := by have := HN.out; omega
          have hij1 : (i : Int) < (j : Int) := by omega
          have hij2 : ((i : Int) == (j : Int)) = false := beq_eq_false_iff_ne.2 (by omega)
          by_cases hd : p.dir = 2
          · have e2 : ((p.dir : Int) == 2) = true := beq_iff_eq.2 (by omega)
            have HD := Lib.hid hd
            clear hd
            go_wp2
            go_ret2
            exact HPOST.out _ _ _ _ (by rw [HGO.out, if_pos HD.out]; rfl) (ptsR_nil _) Q3.out.below
          · have e2 : ((p.dir : Int) == 2) = false := beq_eq_false_iff_ne.2 (by omega)
            have HD := Lib.hid hd
            clear hd
            have hlt1 : ∀ k, u11.ownBlock = some k → w.heap.size + 1 ≤ k := fun k hk => (hown.lt k hk).1
            have ne0 : u11.ownBlock ≠ some w.heap.size := fun h => by have := hlt1 _ h; omega
            have ne1 : u11.ownBlock ≠ some g := fun h => by have := hlt1 _ h; omega
            have lg : g < wr.heap.size := by omega
            have HL1 := Lib.hid hlt1
            rw [if_neg HD.out] at HGO
            clear hlt1
            go_wp2
            have hs0 : (0 : Int) ≤ (i : Int) + 1 := by omega
            have hs1 : (0 : Int) ≤ (i : Int) := by omega
            have hs2 : ((i : Int) + 1).toNat = i + 1 := by omega
            go_region_held3 (fun wx => wx.cell? ⟨w.heap.size, 1, none⟩ = some (.slice (some ⟨g, o, none⟩) n c) ∧ wx.cell? ⟨g, o + (i + 1) * 4, none⟩ = some (.string (sb q.ref)) ∧ wx.cell? ⟨g, o + i * 4 + 1, none⟩ = some (.int .i64 p.lo) ∧ wx.cell? ⟨g, o + i * 4 + 2, none⟩ = some (.int .i64 p.hi))
              (first
                | go_keep
                | (go_split_ands
                   refine ⟨?_, ?_, ?_, ?_⟩
                   · (rw [hgrow.cell_far _ (by simp; omega) (Ne.symm ne0)]; assumption)
                   · (rw [hgrow.cell_far _ (by simp; omega) (Ne.symm ne1)]; assumption)
                   · (rw [hgrow.cell_far _ (by simp; omega) (Ne.symm ne1)]; assumption)
                   · (rw [hgrow.cell_far _ (by simp; omega) (Ne.symm ne1)]; assumption)))
              ((refine step_append_lies _ (by rfl) _ _ _ (by rfl) (w.heap.size + 1) 74 ip (.agg #[.string ⟨#[]⟩, .int .i64 0, .int .i64 0, .int .u8 0]) 4 40 Tryz.underlying34 hip hz0 hz1 hz2 rfl (by omega) u11 out.length (ptcells out) (by rfl) ((hown.alloc _).drew) ⟨wr.heap.size, 0, none⟩ 1 1 [.string (sb q.ref), .int .i64 p.lo, .int .i64 p.hi, .int .u8 0] (by rfl) (by rfl) (World.news_of_block (cs := #[.string (sb q.ref), .int .i64 p.lo, .int .i64 p.hi, .int .u8 0]) (t := 74) (fr := (0, 0)) (heap_alloc_new wr _)) (by simp [Value.oneCell']) (by omega) (by unfold maxLen; omega) (by omega) (by simp; omega) (wr.heap.size + 1) (by simp) ?_; intro gg cap w3 hown3 hgrow hat hlt3))
            have Q4 : Hid (BoxQ w nm (.slice (some ⟨g, o, none⟩) n c) w3) := ((Below.alloc Q3.out (by omega) _).drew).grown hgrow (by simp; omega) HL1.out
            have HO : Hid (w3.ownsRow (w.heap.size + 1) 74 4 (.slice (some ⟨gg, 0, none⟩) (out.length + 1) cap) (out ++ [(⟨q.ref, p.lo, p.hi, 0⟩ : Pt)]).length (ptcells (out ++ [(⟨q.ref, p.lo, p.hi, 0⟩ : Pt)]))) := by
              unfold Hid
              rw [ptcells_snoc, List.length_append]
              exact hown3
            have HOK : Hid (∀ x ∈ out ++ [(⟨q.ref, p.lo, p.hi, 0⟩ : Pt)], PtOk x) := by
              intro x hx
              rw [List.mem_append, List.mem_singleton] at hx
              rcases hx with hx | rfl
              · exact hok.out x hx
              · exact ⟨hpo.1, by show (0 : Nat) < 256; decide⟩
            clear hown hown3 hgrow hat
            go_wp2
            go_roundw
            case rel => exact ⟨i + 1, k, _, hn1, by go_num, by have := HK.out; omega, HO.out, by simp; omega, Q4, HOK, HGO.out⟩
            case measure => simp [intOf]; omega
        · subst heq
          obtain rfl : k = 0 := by omega
          clear hk hne hol
          have hrd := Lib.hid (Rd.of_own hown)
          clear hown
          go_wp2
          go_ret2
          exact HPOST.out _ _ _ _ (by rw [hgo.out]; rfl) ⟨hrd.out, hok.out⟩ Q3.out.below
        · obtain ⟨k, rfl⟩ : ∃ k', k = k' + 1 := ⟨k - 1, by omega⟩
          clear hk
          have hn1 : i - 1 < l.length := by omega
          have hgo2 := hgo.out
          rw [exp_back (by omega) hn1] at hgo2
          obtain ⟨g, o, cx, hA, hg, x0, x1, x2, x3⟩ := H.out.at_ hn1
          rw [HN.out] at hA
          simp only [Value.slice.injEq, true_and] at hA
          obtain ⟨rfl, rfl⟩ := hA
          have hbw := Q3.out.below
          have y1 := (hbw.cell (p := ⟨g, o + (i - 1) * 4 + 1, none⟩) hg).trans x1
          have y2 := (hbw.cell (p := ⟨g, o + (i - 1) * 4 + 2, none⟩) hg).trans x2
          have y3 := (hbw.cell (p := ⟨g, o + (i - 1) * 4 + 3, none⟩) hg).trans x3
          have y4 := (hbw.cell (p := ⟨g, o + (i - 1) * 4, none⟩) hg).trans x0
          have hpo := H.out.2 _ (List.getElem_mem hn1)
          obtain ⟨p, hp⟩ : ∃ p, l[i - 1] = p := ⟨_, rfl⟩
          rw [hp] at y1 y2 y3 y4 hgo2 hpo
          have HGO := Lib.hid hgo2
          clear hgo hgo2 x0 x1 x2 x3 hp hbw
          have hii : (i : Int) < (n : Int) := by have := HN.out; omega
          have hii2 : (i : Int) - 1 < (n : Int) := by have := HN.out; omega
          have hii3 : (0 : Int) ≤ (i : Int) - 1 := by omega
          have hij1 : (j : Int) < (i : Int) := by omega
          have hij2 : ((i : Int) == (j : Int)) = false := beq_eq_false_iff_ne.2 (by omega)
          by_cases hd : p.dir = 1
          · have e2 : ((p.dir : Int) == 1) = true := beq_iff_eq.2 (by omega)
            have HD := Lib.hid hd
            clear hd
            go_wp2
            go_ret2
            exact HPOST.out _ _ _ _ (by rw [HGO.out, if_pos HD.out]; rfl) (ptsR_nil _) Q3.out.below
          · have e2 : ((p.dir : Int) == 1) = false := beq_eq_false_iff_ne.2 (by omega)
            have HD := Lib.hid hd
            clear hd
            have hlt1 : ∀ k, u11.ownBlock = some k → w.heap.size + 1 ≤ k := fun k hk => (hown.lt k hk).1
            have ne0 : u11.ownBlock ≠ some w.heap.size := fun h => by have := hlt1 _ h; omega
            have ne1 : u11.ownBlock ≠ some g := fun h => by have := hlt1 _ h; omega
            have lg : g < wr.heap.size := by omega
            have HL1 := Lib.hid hlt1
            rw [if_neg HD.out] at HGO
            clear hlt1
            go_wp2
            have hs0 : (0 : Int) ≤ (i : Int) - 1 := by omega
            have hs1 : (0 : Int) ≤ (i : Int) := by omega
            have hs3 : (1 : Int) ≤ (i : Int) := by omega
            have hs4 : (i : Int) < (n : Int) + 1 := by omega
            have hs5 : (i : Int) ≤ (n : Int) := by omega
            have hs6 : 1 ≤ i := by omega
            have hs2 : ((i : Int) - 1).toNat = i - 1 := by omega
            go_region_held3 (fun wx => wx.cell? ⟨w.heap.size, 1, none⟩ = some (.slice (some ⟨g, o, none⟩) n c) ∧ wx.cell? ⟨g, o + (i - 1) * 4, none⟩ = some (.string (sb p.ref)) ∧ wx.cell? ⟨g, o + (i - 1) * 4 + 1, none⟩ = some (.int .i64 p.lo) ∧ wx.cell? ⟨g, o + (i - 1) * 4 + 2, none⟩ = some (.int .i64 p.hi))
              (first
                | go_keep
                | (go_split_ands
                   refine ⟨?_, ?_, ?_, ?_⟩
                   · (rw [hgrow.cell_far _ (by simp; omega) (Ne.symm ne0)]; assumption)
                   · (rw [hgrow.cell_far _ (by simp; omega) (Ne.symm ne1)]; assumption)
                   · (rw [hgrow.cell_far _ (by simp; omega) (Ne.symm ne1)]; assumption)
                   · (rw [hgrow.cell_far _ (by simp; omega) (Ne.symm ne1)]; assumption)))
              ((refine step_append_lies _ (by rfl) _ _ _ (by rfl) (w.heap.size + 1) 74 ip (.agg #[.string ⟨#[]⟩, .int .i64 0, .int .i64 0, .int .u8 0]) 4 40 Tryz.underlying34 hip hz0 hz1 hz2 rfl (by omega) u11 out.length (ptcells out) (by rfl) ((hown.alloc _).drew) ⟨wr.heap.size, 0, none⟩ 1 1 [.string (sb p.ref), .int .i64 p.lo, .int .i64 p.hi, .int .u8 0] (by rfl) (by rfl) (World.news_of_block (cs := #[.string (sb p.ref), .int .i64 p.lo, .int .i64 p.hi, .int .u8 0]) (t := 74) (fr := (0, 0)) (heap_alloc_new wr _)) (by simp [Value.oneCell']) (by omega) (by unfold maxLen; omega) (by omega) (by simp; omega) (wr.heap.size + 1) (by simp) ?_; intro gg cap w3 hown3 hgrow hat hlt3))
            have Q4 : Hid (BoxQ w nm (.slice (some ⟨g, o, none⟩) n c) w3) := ((Below.alloc Q3.out (by omega) _).drew).grown hgrow (by simp; omega) HL1.out
            have HO : Hid (w3.ownsRow (w.heap.size + 1) 74 4 (.slice (some ⟨gg, 0, none⟩) (out.length + 1) cap) (out ++ [(⟨p.ref, p.lo, p.hi, 0⟩ : Pt)]).length (ptcells (out ++ [(⟨p.ref, p.lo, p.hi, 0⟩ : Pt)]))) := by
              unfold Hid
              rw [ptcells_snoc, List.length_append]
              exact hown3
            have HOK : Hid (∀ x ∈ out ++ [(⟨p.ref, p.lo, p.hi, 0⟩ : Pt)], PtOk x) := by
              intro x hx
              rw [List.mem_append, List.mem_singleton] at hx
              rcases hx with hx | rfl
              · exact hok.out x hx
              · exact ⟨hpo.1, by show (0 : Nat) < 256; decide⟩
            clear hown hown3 hgrow hat
            go_wp2
            go_roundw
            case rel => exact ⟨i - 1, k, _, hn1, congrArg (Value.int .i64) (by omega), by have := HK.out; omega, HO.out, by simp; omega, Q4, HOK, HGO.out⟩
            case measure => simp [intOf]; omega
  · have e1 : (ch != 0) = true := bne_iff_ne.2 h0
    have H0 := Lib.hid h0
    clear h0
    go_wp2
    go_ret2
    exact HPOST.out _ _ _ _ (by rw [← HR.out]; unfold expOut; rw [if_neg (by rw [HC.out]; exact H0.out), HC.out]) (ptsR_nil _) Q1.out.below
end Go.Proofs.YtinkdlmikhcpjaaGreatDoor
namespace Go.Proofs.YtinkdlmikhcpjaaGreatDoor
open Go.RowKit
set_option linter.unusedVariables false
set_option linter.unusedSimpArgs false

def dirWord (d : Nat) : List UInt8 := if d = 0 then [66, 79, 84, 72] else if d = 1 then [70, 79, 82, 87, 65, 82, 68] else [66, 65, 67, 75, 87, 65, 82, 68]
theorem dirWord_len (d : Nat) : (dirWord d).length ≤ 8 := by
  unfold dirWord; split
  · decide
  · split <;> decide
/-- what follows the reference in a point's line -/
def ptTail (p : Pt) (last : Bool) : List UInt8 := if last then [] else 32 :: (winOut p.lo p.hi ++ 32 :: dirWord p.dir)
def ptLine (p : Pt) (last : Bool) : List UInt8 := [86, 73, 65, 32] ++ p.ref ++ (ptTail p last ++ [10])
def ptLines : List Pt → List UInt8
  | [] => []
  | p :: r => ptLine p r.isEmpty ++ ptLines r
def awText (nm : List UInt8) (l : List Pt) : List UInt8 := [65, 73, 82, 87, 65, 89, 32] ++ nm ++ [10] ++ ptLines l
theorem ptLines_step {l : List Pt} {k : Nat} (h : k < l.length) : ptLines (l.drop k) = ptLine l[k] (decide (l.length ≤ k + 1)) ++ ptLines (l.drop (k + 1)) := by
  rw [List.drop_eq_getElem_cons h]
  show ptLine l[k] (l.drop (k + 1)).isEmpty ++ _ = _
  have e : (l.drop (k + 1)).isEmpty = decide (l.length ≤ k + 1) := by
    rw [Bool.eq_iff_iff, List.isEmpty_iff, List.drop_eq_nil_iff, decide_eq_true_iff]
  rw [e]
theorem ptLines_end {l : List Pt} {k : Nat} (h : l.length ≤ k) : ptLines (l.drop k) = [] := by
  rw [List.drop_eq_nil_of_le h]; rfl
theorem winOut_len (lo hi : Int) : (winOut lo hi).length ≤ 140004 := by
  have h1 := altOut_len lo
  have h2 := altOut_len hi
  unfold winOut
  split
  · simp
  · unfold winText
    repeat' split
    all_goals ((try simp only [List.length_append, List.length_cons, List.length_nil]); omega)
theorem chk_zero : ∀ (l : List Pt) (r : List Pt) (i : Nat), chkFrom l i r = 0 → ∀ (j : Nat) (h : j < r.length), ptErr l r[j] (i + j) = 0
  | l, [], i, _, j, h => absurd h (by simp)
  | l, p :: r, i, hc, j, h => by
    have hc2 : (if ptErr l p i = 0 then chkFrom l (i + 1) r else ptErr l p i) = 0 := hc
    split at hc2
    · next h0 =>
      cases j with
      | zero => exact h0
      | succ j =>
        have := chk_zero l r (i + 1) hc2 j (by simpa using h)
        rw [show i + (j + 1) = i + 1 + j by omega]
        exact this
    · next h0 => exact absurd hc2 h0
theorem cutAt_join (c : UInt8) : ∀ l : List UInt8, (cutAt c l).2.2 = true → l = (cutAt c l).1 ++ c :: (cutAt c l).2.1
  | [], h => by simp [cutAt] at h
  | x :: l, h => by
    unfold cutAt at h ⊢
    by_cases hx : x = c
    · rw [if_pos hx]; rw [hx]; rfl
    · rw [if_neg hx] at h ⊢
      exact congrArg (x :: ·) (cutAt_join c l h)
theorem nameB_len {l : List UInt8} {n : Int} (h : nameB l n = true) : (l.length : Int) ≤ n ∧ 0 < l.length := by
  unfold nameB at h
  simp only [Bool.and_eq_true, decide_eq_true_iff] at h
  omega
theorem refErr_len {l : List UInt8} (h : refErr l = 0) : l.length ≤ 13 := by
  unfold refErr at h
  split at h
  · next h1 =>
    split at h
    · next h2 =>
      unfold refB at h2
      rw [Bool.and_eq_true, Bool.or_eq_true] at h2
      have ha := (nameB_len h2.1).1
      have hb : ((cutAt 47 l).2.1.length : Int) ≤ 6 := by
        rcases h2.2 with h3 | h3
        · exact (nameB_len h3).1
        · unfold shortB at h3
          rw [Bool.and_eq_true] at h3
          have := h3.1
          have : (cutAt 47 l).2.1.length = 2 := by simpa using this
          omega
      have hl : l = (cutAt 47 l).1 ++ 47 :: (cutAt 47 l).2.1 := by
        have := cutAt_join 47 l h1
        exact this
      have hlen := congrArg List.length hl
      rw [List.length_append, List.length_cons] at hlen
      omega
    · cases h
  · cases h
/-- what an airway without an error has -/
theorem chk_has {nm : List UInt8} {l : List Pt} (h : chkA nm l = 0) : nm.length ≤ 8 ∧ 2 ≤ l.length ∧ l.length ≤ 40 ∧ ∀ (j : Nat) (hj : j < l.length), l[j].ref.length ≤ 13 ∧ (j + 1 ≠ l.length → l[j].dir ≤ 2 ∧ winOk l[j].lo l[j].hi = true) ∧ (j + 1 = l.length → lastOk l[j] = true) ∧ ¬ idxOf l l[j].ref < j := by
  unfold chkA at h
  split at h
  · next h1 =>
    split at h
    · cases h
    · split at h
      · cases h
      · refine ⟨by have := (nameB_len h1).1; omega, by omega, by omega, fun j hj => ?_⟩
        have h2 := chk_zero l l 0 h j hj
        rw [Nat.zero_add] at h2
        unfold ptErr at h2
        split at h2
        · next h3 =>
          split at h2
          · cases h2
          · next hx =>
            refine ⟨refErr_len h3, ?_, ?_, hx⟩
            · intro hne
              rw [if_neg hne] at h2
              split at h2
              · next hw =>
                split at h2
                · cases h2
                · exact ⟨by omega, hw⟩
              · cases h2
            · intro he
              rw [if_pos he] at h2
              split at h2
              · assumption
              · cases h2
        · cases h2
  · cases h
end Go.Proofs.YtinkdlmikhcpjaaGreatDoor
namespace Go.Proofs.YtinkdlmikhcpjaaGreatDoor
open Go.RowKit
set_option linter.unusedVariables false
set_option linter.unusedSimpArgs false

end Go.Proofs.YtinkdlmikhcpjaaGreatDoor
namespace Go.Proofs.YtinkdlmikhcpjaaGreatDoor
open Go.RowKit
set_option linter.unusedVariables false
set_option linter.unusedSimpArgs false

/-- an airway: its name, its points -/
structure Aw where
  name : List UInt8
  pts : List Pt
/-- airways in memory -/
def AwsR (w : World) (v : Value) (L : List Aw) : Prop :=
  ∃ xs : List Value, Rd w 2 v L.length xs ∧ ∀ k (h : k < L.length), ∃ pv, xs[k * 2]? = some (.string (sb L[k].name)) ∧ xs[k * 2 + 1]? = some pv ∧ PtsR w pv L[k].pts ∧ L[k].name.length ≤ maxLen
theorem AwsR.form {w : World} {v : Value} {L : List Aw} (h : AwsR w v L) : ∃ A c, v = .slice A L.length c ∧ L.length ≤ c ∧ c ≤ maxLen := by
  obtain ⟨xs, h1, _⟩ := h; exact h1.form
theorem AwsR.below {w w' : World} {v : Value} {L : List Aw} (h : AwsR w v L) (hb : Below w.heap.size w w') : AwsR w' v L := by
  obtain ⟨xs, h1, h2⟩ := h
  exact ⟨xs, h1.below hb, fun k hk => by obtain ⟨pv, x0, x1, x2, x3⟩ := h2 k hk; exact ⟨pv, x0, x1, x2.below hb, x3⟩⟩
theorem AwsR.at_ {w : World} {v : Value} {L : List Aw} (h : AwsR w v L) {k : Nat} (hk : k < L.length) :
    ∃ g o c pv, v = .slice (some ⟨g, o, none⟩) L.length c ∧ g < w.heap.size ∧ w.cell? ⟨g, o + k * 2, none⟩ = some (.string (sb L[k].name)) ∧ w.cell? ⟨g, o + k * 2 + 1, none⟩ = some pv ∧ PtsR w pv L[k].pts ∧ L[k].name.length ≤ maxLen := by
  obtain ⟨xs, ⟨hl, A, c, hv, hc, hm, hr⟩, h2⟩ := h
  obtain ⟨g, o, rfl, hg, hx⟩ := hr (by omega)
  obtain ⟨pv, x0, x1, x2, x3⟩ := h2 k hk
  refine ⟨g, o, c, pv, hv, hg, hx _ _ x0, ?_, x2, x3⟩
  have := hx _ _ x1
  rwa [← Nat.add_assoc] at this
def chkLFrom : List Aw → Int
  | [] => 0
  | a :: r => if chkA a.name a.pts = 0 then chkLFrom r else chkA a.name a.pts
def chkL (L : List Aw) : Int := if 60 < L.length then 3 else chkLFrom L
theorem chkL_step {L : List Aw} {k : Nat} (h : k < L.length) : chkLFrom (L.drop k) = if chkA L[k].name L[k].pts = 0 then chkLFrom (L.drop (k + 1)) else chkA L[k].name L[k].pts := by
  rw [List.drop_eq_getElem_cons h]; rfl
theorem chkL_end {L : List Aw} {k : Nat} (h : L.length ≤ k) : chkLFrom (L.drop k) = 0 := by
  rw [List.drop_eq_nil_of_le h]; rfl
set_option maxRecDepth 100000 in
set_option maxHeartbeats 4000000 in
theorem checkL_any (v : Value) (L : List Aw) (w : World) (h : AwsR w v L) :
    Calls Tryz.prog 91 #[v] w fun e w' => e = .returned (.int .i64 (chkL L)) ∧ Below w.heap.size w w' := by
  obtain ⟨A, c, rfl, hc, hm⟩ := h.form
  unfold maxLen at hm
  have H := Lib.hid h
  clear h
  obtain ⟨n, hnn⟩ : ∃ n, L.length = n := ⟨_, rfl⟩
  rw [hnn] at hc H
  rw [hnn]
  have HN := Lib.hid hnn
  obtain ⟨x, hx⟩ : ∃ x, chkL L = x := ⟨_, rfl⟩
  rw [hx]
  have HX := Lib.hid hx
  clear hnn hx
  rcases Nat.lt_or_ge 60 n with h60 | h60
  · have h60' : (60 : Int) < (n : Int) := by omega
    go_enter Tryz.func91, Tryz.ntmps91
    go_wp2
    go_ret
    exact ⟨ret_int (by rw [← HX.out]; unfold chkL; rw [if_pos (by rw [HN.out]; exact h60)]), Below.refl _ _⟩
  · have h60' : (n : Int) ≤ 60 := by omega
    have HX2 : Hid (chkLFrom (L.drop 0) = x) := by
      unfold Hid; rw [← HX.out, List.drop_zero]; unfold chkL; rw [if_neg (by rw [HN.out]; omega)]
    go_enter Tryz.func91, Tryz.ntmps91
    go_wp2
    go_loopw [11] (fun i wr => ∃ k : Nat, k ≤ n ∧ i = .int .i64 k ∧ Hid (chkLFrom (L.drop k) = x) ∧ Below w.heap.size w wr) (fun i _ => n - (intOf i).toNat)
    case atStart => exact ⟨0, Nat.zero_le _, rfl, HX2.out, Below.refl _ _⟩
    case round =>
      obtain ⟨k, hk, rfl, hix, hbr⟩ := hrel
      by_cases hlt : k < n
      · have hkl : k < L.length := by rw [HN.out]; exact hlt
        have HS := Lib.hid (chkL_step hkl)
        obtain ⟨g, o, c', pv, hA, hg, x0, x1, x2, x3⟩ := H.out.at_ hkl
        rw [HN.out] at hA
        simp only [Value.slice.injEq, true_and] at hA
        obtain ⟨rfl, rfl⟩ := hA
        have k0 := (hbr.cell (p := ⟨g, o + k * 2, none⟩) hg).trans x0
        have k1 := (hbr.cell (p := ⟨g, o + k * 2 + 1, none⟩) hg).trans x1
        have P := Lib.hid (x2.below hbr)
        obtain ⟨a, ha⟩ : ∃ a, L[k] = a := ⟨_, rfl⟩
        rw [ha] at k0 HS P x3
        clear x0 x1 x2 ha hkl hg
        obtain ⟨Ap, cp, rfl, _, _⟩ := P.out.form
        have hba := Lib.hid (hbr.alloc hbr.size (.cells #[.string (sb a.name), .slice Ap a.pts.length cp] 36))
        go_wp2_with fail
        refine (check_any (sb a.name) _ a.pts _ (P.out.below ((Below.refl _ _).alloc (Nat.le_refl _) _)) x3).mono ?_
        rintro e1 w2 ⟨rfl, hb2⟩
        rw [bl_sb]
        have hbn := hba.out.trans (hb2.mono (by simp; have := hbr.size; omega))
        obtain ⟨er, he⟩ : ∃ er, chkA a.name a.pts = er := ⟨_, rfl⟩
        rw [he] at HS ⊢
        clear he k0 k1 hb2 hba
        by_cases h0 : er = 0
        · have e1 : (er != 0) = false := by rw [h0]; rfl
          have H0 := Lib.hid h0
          clear h0
          go_wp2
          go_roundw
          case rel => exact ⟨k + 1, hlt, by go_num, by unfold Hid; rw [← hix.out, HS.out, if_pos H0.out], hbn⟩
          case measure => simp [intOf]; omega
        · have e1 : (er != 0) = true := bne_iff_ne.2 h0
          have H0 := Lib.hid h0
          clear h0
          go_wp2
          go_ret
          exact ⟨ret_int (by rw [← hix.out, HS.out, if_neg H0.out]), hbn⟩
      · have HE := Lib.hid (chkL_end (L := L) (k := k) (by have := HN.out; omega))
        go_wp2
        go_ret
        exact ⟨ret_int (by rw [← hix.out, HE.out]), hbr⟩

/-! ### the law's comparisons -/
theorem StrR.form {w : World} {v : Value} {l : List (List UInt8)} (h : StrR w v l) : ∃ A c, v = .slice A l.length c ∧ l.length ≤ c ∧ c ≤ maxLen := Rd.form h
theorem StrR.at_ {w : World} {v : Value} {l : List (List UInt8)} (h : StrR w v l) {k : Nat} (hk : k < l.length) : ∃ g o c, v = .slice (some ⟨g, o, none⟩) l.length c ∧ g < w.heap.size ∧ w.cell? ⟨g, o + k, none⟩ = some (.string (sb l[k])) := by
  obtain ⟨hl, A, c, hv, hc, hm, hr⟩ := h
  obtain ⟨g, o, rfl, hg, hx⟩ := hr (by omega)
  exact ⟨g, o, c, hv, hg, hx k _ (by unfold rfcells; rw [List.getElem?_map, List.getElem?_eq_getElem hk]; rfl)⟩
set_option maxHeartbeats 1000000 in
theorem points_same (va vb : Value) (l : List Pt) (w : World) (ha : PtsR w va l) (hb : PtsR w vb l) :
    Calls Tryz.prog 16 #[va, vb] w fun e w' => e = .returned (.bool true) ∧ Drawn w w' := by
  obtain ⟨A, c, rfl, hc, hm⟩ := ha.form
  obtain ⟨A', c', rfl, hc', hm'⟩ := hb.form
  obtain ⟨n, hn⟩ : ∃ n, l.length = n := ⟨_, rfl⟩
  have HN := Lib.hid hn
  rw [hn] at ha hb hc hc' ⊢
  have HA := Lib.hid ha
  have HB := Lib.hid hb
  clear ha hb hn
  unfold maxLen at hm hm'
  go_enter Tryz.func16, Tryz.ntmps16
  go_wp2
  go_loopw [13] (fun i wr => ∃ k : Nat, k ≤ n ∧ i = .int .i64 k ∧ Drawn w wr) (fun i _ => n - (intOf i).toNat)
  case atStart => exact ⟨0, Nat.zero_le _, rfl, Drawn.refl _⟩
  case round =>
    obtain ⟨k, hk, rfl, m, rfl⟩ := hrel
    by_cases hlt : k < n
    · have hkl : k < l.length := by rw [HN.out]; exact hlt
      obtain ⟨g, o, c1, hv, _, y1, y2, y3, y4⟩ := HA.out.at_ hkl
      obtain ⟨g', o', c1', hv', _, y1', y2', y3', y4'⟩ := HB.out.at_ hkl
      rw [HN.out] at hv hv'
      simp only [Value.slice.injEq, true_and] at hv hv'
      obtain ⟨rfl, rfl⟩ := hv
      obtain ⟨rfl, rfl⟩ := hv'
      obtain ⟨p, hp⟩ : ∃ p, l[k] = p := ⟨_, rfl⟩
      rw [hp] at y1 y2 y3 y4 y1' y2' y3' y4'
      clear hp hkl
      have hki : (k : Int) < (n : Int) := by omega
      go_wp2
      go_quiet (fail)
      go_wp2
      go_roundw
      case rel => exact ⟨k + 1, hlt, by go_num, _, rfl⟩
      case measure => simp [intOf]; omega
    · go_wp2
      go_ret
      exact ⟨rfl, _, rfl⟩
end Go.Proofs.YtinkdlmikhcpjaaGreatDoor
