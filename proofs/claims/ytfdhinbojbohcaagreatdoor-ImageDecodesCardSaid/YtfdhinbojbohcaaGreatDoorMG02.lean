/-
  Several texts as one.
  Contracts: strings.Cut at one byte, at any string; references of fixes: SplitRef of both sides.
  Airways in memory: points, and the index of a reference on both sides.
  Contracts: the first error of an airway on both sides.
-/
import Derived.Test.YtfdhinbojbohcaaGreatDoorMG01
import Derived.Deep.RegionHeld3
import Derived.Deep.DeepCutAuto
import Derived.Deep.CutRange
namespace Go.Proofs.YtfdhinbojbohcaaGreatDoor
open Go.RowKit
set_option linter.unusedVariables false
set_option linter.unusedSimpArgs false

/-! ### regions of two letters or digits -/
def shortB (l : List UInt8) : Bool := l.length == 2 && l.all nameC
theorem shortB_len {s : ByteArray} (h : ¬ s.size = 2) : shortB (bl s) = false := by
  unfold shortB
  have : ((bl s).length == 2) = false := by rw [beq_eq_false_iff_ne]; exact h
  rw [this]; rfl
theorem shortB_of {s : ByteArray} (h : s.size = 2) : shortB (bl s) = (bl s).all nameC := by
  unfold shortB
  have : ((bl s).length == 2) = true := by rw [beq_iff_eq]; exact h
  rw [this]; rfl
theorem nameC_ways (c : UInt8) : (Hid (nameC c = true) ∧ ((65 ≤ (c.toNat : Int) ∧ (c.toNat : Int) ≤ 90) ∨ ((c.toNat : Int) < 65 ∧ 48 ≤ (c.toNat : Int) ∧ (c.toNat : Int) ≤ 57))) ∨
    (Hid (nameC c = false) ∧ (((c.toNat : Int) < 65 ∧ (c.toNat : Int) < 48) ∨ ((c.toNat : Int) < 65 ∧ 48 ≤ (c.toNat : Int) ∧ 57 < (c.toNat : Int)) ∨ (65 ≤ (c.toNat : Int) ∧ 90 < (c.toNat : Int) ∧ 48 ≤ (c.toNat : Int) ∧ 57 < (c.toNat : Int)))) := by
  by_cases h : (65 ≤ (c.toNat : Int) ∧ (c.toNat : Int) ≤ 90) ∨ (48 ≤ (c.toNat : Int) ∧ (c.toNat : Int) ≤ 57)
  · exact .inl ⟨nameC_yes h, by omega⟩
  · exact .inr ⟨nameC_no (by omega) (by omega), by omega⟩
set_option maxHeartbeats 1000000 in
theorem short_any (s : ByteArray) (w : World) (hs : s.size ≤ maxLen) :
    Calls Tryz.prog 113 #[.string s] w fun e w' => e = .returned (.bool (shortB (bl s))) ∧ w = w' := by
  unfold maxLen at hs
  by_cases h2 : s.size = 2
  · have H2 := Lib.hid h2
    have e2 : ((s.size : Int) != 2) = false := by rw [bne_eq_false_iff_eq]; omega
    have b1 : 2 ≤ s.size := by omega
    have b2 : s.size ≤ 2 := by omega
    clear h2
    go_enter Tryz.func113, Tryz.ntmps113
    go_wp2
    go_loop [9] (fun i => ∃ k : Nat, k ≤ s.size ∧ i = .int .i64 k ∧ Hid (((bl s).take k).all nameC = true)) (fun i => s.size - (intOf i).toNat)
    case atStart => exact ⟨0, Nat.zero_le _, rfl, rfl⟩
    case round =>
      obtain ⟨k, hk, rfl, hall⟩ := hrel
      by_cases h : k < s.size
      · have hk2 : (k : Int) < 2 := by omega
        rcases nameC_ways s[k] with ⟨hn, hc⟩ | ⟨hn, hc⟩
        · have HA := Lib.hid (all_take_succ hall.out h hn.out)
          clear hn
          rcases hc with ⟨c1, c2⟩ | ⟨c1, c2, c3⟩
          all_goals
            go_wp2
            go_round
            case rel => exact ⟨k + 1, h, by go_num, HA.out⟩
            case measure => simp [intOf]; omega
        · have HF : Hid (shortB (bl s) = false) := by unfold Hid; rw [shortB_of H2.out, all_false_at (l := bl s) (k := k) h hn.out]
          clear hn
          rcases hc with ⟨c1, c2⟩ | ⟨c1, c2, c3⟩ | ⟨c1, c2, c3, c4⟩
          all_goals
            go_wp2
            go_ret
            exact ⟨ret_bool HF.out.symm, rfl⟩
      · have hk2 : (2 : Int) ≤ (k : Int) := by omega
        go_wp2
        go_ret
        exact ⟨ret_bool (by rw [shortB_of H2.out, all_take_all hall.out (by rw [bl_len]; omega)]), rfl⟩
  · have e2 : ((s.size : Int) != 2) = true := by rw [bne_iff_ne]; omega
    have HF := Lib.hid (shortB_len h2)
    clear h2
    go_enter Tryz.func113, Tryz.ntmps113
    go_wp2
    go_ret
    exact ⟨ret_bool HF.out.symm, rfl⟩

/-! ### references -/
def refB (a b : List UInt8) : Bool := nameB a 6 && (nameB b 6 || shortB b)
def refErr (l : List UInt8) : Int := if (cutAt 47 l).2.2 then (if refB (cutAt 47 l).1 (cutAt 47 l).2.1 then 0 else 5) else 4
def refFst (l : List UInt8) : List UInt8 := if refErr l = 0 then (cutAt 47 l).1 else []
def refSnd (l : List UInt8) : List UInt8 := if refErr l = 0 then (cutAt 47 l).2.1 else []
def RefTPost (s : ByteArray) (w : World) (e : Ending) (w' : World) : Prop :=
  ∃ a b, e = .returned (.tuple #[.string a, .string b, .int .i64 (refErr (bl s))]) ∧ Hid (bl a = refFst (bl s)) ∧ Hid (bl b = refSnd (bl s)) ∧ a.size ≤ s.size ∧ b.size ≤ s.size ∧ Drawn w w'
theorem refErr_no {s : ByteArray} {x y : List UInt8} (h : cutAt 47 (bl s) = (x, y, false)) : refErr (bl s) = 4 := by unfold refErr; rw [h]; rfl
theorem refErr_yes {s : ByteArray} {x y : List UInt8} (h : cutAt 47 (bl s) = (x, y, true)) : refErr (bl s) = if refB x y then 0 else 5 := by unfold refErr; rw [h]; rfl
theorem refTPost_bad {s : ByteArray} {w w' : World} {n : Int} (h : refErr (bl s) = n) (h0 : n ≠ 0) (hd : Drawn w w') : RefTPost s w (.returned (.tuple #[.string ⟨#[]⟩, .string ⟨#[]⟩, .int .i64 n])) w' := by
  subst h
  refine ⟨_, _, rfl, ?_, ?_, Nat.zero_le _, Nat.zero_le _, hd⟩
  · unfold Hid refFst; rw [if_neg h0]; rfl
  · unfold Hid refSnd; rw [if_neg h0]; rfl
theorem refTPost_ok {s a b : ByteArray} {w w' : World} (h : cutAt 47 (bl s) = (bl a, bl b, true)) (hr : refB (bl a) (bl b) = true) (ha : a.size ≤ s.size) (hb : b.size ≤ s.size) (hd : Drawn w w') : RefTPost s w (.returned (.tuple #[.string a, .string b, .int .i64 0])) w' := by
  have h0 : refErr (bl s) = 0 := by rw [refErr_yes h, if_pos hr]
  refine ⟨a, b, by rw [h0], ?_, ?_, ha, hb, hd⟩
  · unfold Hid refFst; rw [if_pos h0, h]
  · unfold Hid refSnd; rw [if_pos h0, h]
theorem refB_ways (a b : List UInt8) : (nameB a 6 = false ∧ Hid (refB a b = false)) ∨ (nameB a 6 = true ∧ ((nameB b 6 = true ∧ Hid (refB a b = true)) ∨ (nameB b 6 = false ∧ ((shortB b = true ∧ Hid (refB a b = true)) ∨ (shortB b = false ∧ Hid (refB a b = false)))))) := by
  unfold refB Hid
  cases nameB a 6 <;> cases nameB b 6 <;> cases shortB b <;> simp
set_option maxHeartbeats 1000000 in
theorem splitRef_any (s : ByteArray) (w : World) (hs : s.size ≤ maxLen) :
    Calls Tryz.prog 114 #[.string s] w (RefTPost s w) := by
  go_enter Tryz.func114, Tryz.ntmps114
  go_wp2_with fail
  refine (cutAny s 47 _ hs).mono ?_
  rintro e w1 ⟨a, b, f, rfl, hcut, has, hbs, hd⟩
  cases f
  · go_wp2
    go_ret3
    exact refTPost_bad (refErr_no hcut.out) (by decide) hd
  · go_wp2_with fail
    refine (name_any a 6 _ (Nat.le_trans has hs)).mono ?_
    rintro e w' ⟨rfl, rfl⟩
    rcases refB_ways (bl a) (bl b) with ⟨h1, hr⟩ | ⟨h1, ⟨h2, hr⟩ | ⟨h2, ⟨h3, hr⟩ | ⟨h3, hr⟩⟩⟩
    · rw [h1]
      clear h1
      go_wp2
      go_ret3
      exact refTPost_bad (n := 5) (by rw [refErr_yes hcut.out, hr.out]; rfl) (by decide) hd
    all_goals
      rw [h1]
      have H2 := Lib.hid h2
      clear h1 h2
      go_wp2_with fail
      refine (name_any b 6 _ (Nat.le_trans hbs hs)).mono ?_
      rintro e w' ⟨rfl, rfl⟩
      rw [H2.out]
    · go_wp2
      go_ret3
      exact refTPost_ok hcut.out hr.out has hbs hd
    all_goals
      have H3 := Lib.hid h3
      clear h3
      go_wp2_with fail
      refine (short_any b _ (Nat.le_trans hbs hs)).mono ?_
      rintro e w' ⟨rfl, rfl⟩
      rw [H3.out]
    · go_wp2
      go_ret3
      exact refTPost_ok hcut.out hr.out has hbs hd
    · go_wp2
      go_ret3
      exact refTPost_bad (n := 5) (by rw [refErr_yes hcut.out, hr.out]; rfl) (by decide) hd
end Go.Proofs.YtfdhinbojbohcaaGreatDoor
namespace Go.Proofs.YtfdhinbojbohcaaGreatDoor
open Go.RowKit
set_option linter.unusedVariables false
set_option linter.unusedSimpArgs false

section
variable {w w' : World} {size n : Nat} {v : Value} {xs : List Value}
end
/-- a point: its reference, its window, its direction -/
structure Pt where
  ref : List UInt8
  lo : Int
  hi : Int
  dir : Nat
def ptc (p : Pt) : List Value := [.string (sb p.ref), .int .i64 p.lo, .int .i64 p.hi, .int .u8 (p.dir : Int)]
def ptcells (l : List Pt) : List Value := l.flatMap ptc
theorem ptcells_len (l : List Pt) : (ptcells l).length = l.length * 4 := by
  induction l with
  | nil => rfl
  | cons p l ih =>
    show (ptc p ++ ptcells l).length = _
    rw [List.length_append, ih, List.length_cons]
    show 4 + _ = _
    omega
theorem ptcells_at (l : List Pt) : ∀ (k : Nat) (h : k < l.length), (ptcells l)[k * 4]? = some (.string (sb l[k].ref)) ∧ (ptcells l)[k * 4 + 1]? = some (.int .i64 l[k].lo) ∧ (ptcells l)[k * 4 + 2]? = some (.int .i64 l[k].hi) ∧ (ptcells l)[k * 4 + 3]? = some (.int .u8 (l[k].dir : Int)) := by
  induction l with
  | nil => intro k h; simp at h
  | cons p l ih =>
    intro k h
    cases k with
    | zero => exact ⟨rfl, rfl, rfl, rfl⟩
    | succ k =>
      have := ih k (by simpa using h)
      rw [show (k + 1) * 4 = k * 4 + 4 by omega]
      exact this
/-- points in memory; their strings fit, their directions are bytes -/
def PtsR (w : World) (v : Value) (l : List Pt) : Prop := Rd w 4 v l.length (ptcells l) ∧ ∀ p ∈ l, p.ref.length ≤ maxLen ∧ p.dir < 256
theorem PtsR.form {w : World} {v : Value} {l : List Pt} (h : PtsR w v l) : ∃ A c, v = .slice A l.length c ∧ l.length ≤ c ∧ c ≤ maxLen := h.1.form
theorem PtsR.below {w w' : World} {v : Value} {l : List Pt} (h : PtsR w v l) (hb : Below w.heap.size w w') : PtsR w' v l := ⟨h.1.below hb, h.2⟩
theorem PtsR.at_ {w : World} {v : Value} {l : List Pt} (h : PtsR w v l) {k : Nat} (hk : k < l.length) :
    ∃ g o c, v = .slice (some ⟨g, o, none⟩) l.length c ∧ g < w.heap.size ∧ w.cell? ⟨g, o + k * 4, none⟩ = some (.string (sb l[k].ref)) ∧ w.cell? ⟨g, o + k * 4 + 1, none⟩ = some (.int .i64 l[k].lo) ∧ w.cell? ⟨g, o + k * 4 + 2, none⟩ = some (.int .i64 l[k].hi) ∧ w.cell? ⟨g, o + k * 4 + 3, none⟩ = some (.int .u8 (l[k].dir : Int)) := by
  obtain ⟨⟨hl, A, c, hv, hc, hm, hr⟩, _⟩ := h
  obtain ⟨g, o, rfl, hg, hx⟩ := hr (by omega)
  obtain ⟨h0, h1, h2, h3⟩ := ptcells_at l k hk
  exact ⟨g, o, c, hv, hg, hx _ _ h0, hx _ _ h1, hx _ _ h2, hx _ _ h3⟩

/-- the index of the first point with a reference from place n on -/
def idxFrom (r : List UInt8) (n : Nat) : List Pt → Int
  | [] => -1
  | p :: l => if p.ref = r then n else idxFrom r (n + 1) l
def idxOf (l : List Pt) (r : List UInt8) : Int := idxFrom r 0 l
theorem idx_step {l : List Pt} {k : Nat} (r : List UInt8) (h : k < l.length) : idxFrom r k (l.drop k) = if l[k].ref = r then (k : Int) else idxFrom r (k + 1) (l.drop (k + 1)) := by
  rw [List.drop_eq_getElem_cons h]; rfl
theorem idx_end {l : List Pt} {k : Nat} (r : List UInt8) (h : l.length ≤ k) : idxFrom r k (l.drop k) = -1 := by
  rw [List.drop_eq_nil_of_le h]; rfl
set_option maxHeartbeats 400000 in
theorem same_any (t r : ByteArray) (a b : Int) (d : Nat) (B : Nat) (w : World) (hr : w.cell? ⟨B, 0, none⟩ = some (.string r)) (hB : B < w.heap.size) :
    Calls Tryz.prog 157 #[.agg #[.string t, .int .i64 a, .int .i64 b, .int .u8 (d : Int)], .pointer (some ⟨B, 0, none⟩)] w fun e w' => e = .returned (.bool (t.toList == r.toList)) ∧ Below w.heap.size w w' := by
  go_enter Tryz.func157, Tryz.ntmps157
  go_wp2
  go_ret
  exact ⟨rfl, (Below.refl _ _).alloc (Nat.le_refl _) _⟩
theorem str_eq {t r : ByteArray} : (t.toList == r.toList) = decide (bl t = bl r) := by
  rw [bl_toList, bl_toList, Bool.eq_iff_iff, beq_iff_eq, decide_eq_true_iff]
set_option maxRecDepth 100000 in
set_option maxHeartbeats 1000000 in
theorem indexFunc_any (v : Value) (l : List Pt) (r : ByteArray) (B : Nat) (w : World) (h : PtsR w v l) (hr : w.cell? ⟨B, 0, none⟩ = some (.string r)) (hB : B < w.heap.size) :
    Calls Tryz.prog 156 #[v, .func (.func 157) #[] #[.pointer (some ⟨B, 0, none⟩)]] w
      fun e w' => e = .returned (.int .i64 (idxOf l (bl r))) ∧ Below w.heap.size w w' := by
  obtain ⟨A, c, rfl, hc, hm⟩ := h.form
  unfold maxLen at hm
  have H := Lib.hid h
  clear h
  obtain ⟨n, hnn⟩ : ∃ n, l.length = n := ⟨_, rfl⟩
  rw [hnn] at hc H
  rw [hnn]
  have HN := Lib.hid hnn
  obtain ⟨x, hx⟩ : ∃ x, idxOf l (bl r) = x := ⟨_, rfl⟩
  rw [hx]
  have HX := Lib.hid hx
  clear hnn hx
  go_enter Tryz.func156, Tryz.ntmps156
  go_wp2
  go_loopw [8] (fun i wr => ∃ k : Nat, k ≤ n ∧ i = .int .i64 k ∧ Hid (idxFrom (bl r) k (l.drop k) = x) ∧ Below w.heap.size w wr) (fun i _ => n - (intOf i).toNat)
  case atStart => exact ⟨0, Nat.zero_le _, rfl, HX.out, Below.refl _ _⟩
  case round =>
    obtain ⟨k, hk, rfl, hix, hbr⟩ := hrel
    by_cases hlt : k < n
    · have hkl : k < l.length := by rw [HN.out]; exact hlt
      obtain ⟨g, o, c', hA, hg, h0, h1, h2, h3⟩ := H.out.at_ hkl
      rw [HN.out] at hA
      simp only [Value.slice.injEq, true_and] at hA
      obtain ⟨rfl, rfl⟩ := hA
      have k0 := (hbr.cell (p := ⟨g, o + k * 4, none⟩) hg).trans h0
      have k1 := (hbr.cell (p := ⟨g, o + k * 4 + 1, none⟩) hg).trans h1
      have k2 := (hbr.cell (p := ⟨g, o + k * 4 + 2, none⟩) hg).trans h2
      have k3 := (hbr.cell (p := ⟨g, o + k * 4 + 3, none⟩) hg).trans h3
      have HS := Lib.hid (idx_step (bl r) hkl)
      obtain ⟨p, hp⟩ : ∃ p, l[k] = p := ⟨_, rfl⟩
      rw [hp] at k0 k1 k2 k3 HS
      clear h0 h1 h2 h3 hp hkl
      have hr2 := (hbr.cell (p := ⟨B, 0, none⟩) hB).trans hr
      have hB2 : B < wr.heap.size := Nat.lt_of_lt_of_le hB hbr.size
      go_wp2_with fail
      refine (same_any (sb p.ref) r p.lo p.hi p.dir B _ hr2 hB2).mono ?_
      rintro e w1 ⟨rfl, hb1⟩
      have hbn := hbr.trans (hb1.mono hbr.size)
      rw [str_eq, bl_sb]
      clear hr2 hB2 k0 k1 k2 k3
      by_cases he : p.ref = bl r
      · have HE := Lib.hid he
        rw [decide_eq_true he]
        clear he
        go_wp2
        go_ret
        exact ⟨ret_int (by rw [← hix.out, HS.out, if_pos HE.out]), hbn⟩
      · have HE := Lib.hid he
        rw [decide_eq_false he]
        clear he
        go_wp2
        go_roundw
        case rel => exact ⟨k + 1, hlt, by go_num, by unfold Hid; rw [← hix.out, HS.out, if_neg HE.out], hbn⟩
        case measure => simp [intOf]; omega
    · have HE := Lib.hid (idx_end (l := l) (k := k) (bl r) (by have := HN.out; omega))
      go_wp2
      go_ret
      exact ⟨ret_int (by rw [← hix.out, HE.out]), hbr⟩
set_option maxHeartbeats 1000000 in
theorem index_any (nm r : ByteArray) (v : Value) (l : List Pt) (w : World) (h : PtsR w v l) :
    Calls Tryz.prog 115 #[.agg #[.string nm, v], .string r] w fun e w' => e = .returned (.int .i64 (idxOf l (bl r))) ∧ Below w.heap.size w w' := by
  obtain ⟨A, c, rfl, hc, hm⟩ := h.form
  go_enter Tryz.func115, Tryz.ntmps115
  go_wp2_with fail
  refine (indexFunc_any _ l r _ _ (h.below (((Below.refl _ _).alloc (Nat.le_refl _) _).alloc (by simp) _)) (by simp [go_sem]) (by simp)).mono ?_
  rintro e w1 ⟨rfl, hb1⟩
  have hbn := (((Below.refl w.heap.size w).alloc (Nat.le_refl _) (.cells #[.string nm, .slice A l.length c] 38)).alloc (by simp) (.cells #[.string r] 9)).trans (hb1.mono (by simp; omega))
  go_wp2
  go_ret
  exact ⟨rfl, hbn⟩
end Go.Proofs.YtfdhinbojbohcaaGreatDoor
namespace Go.Proofs.YtfdhinbojbohcaaGreatDoor
open Go.RowKit
set_option linter.unusedVariables false
set_option linter.unusedSimpArgs false

def winOk (lo hi : Int) : Bool := decide (-200000 ≤ lo) && decide (lo ≤ hi) && decide (hi ≤ 6000000)
def lastOk (p : Pt) : Bool := decide (p.lo = -200000) && decide (p.hi = 6000000) && decide (p.dir = 0)
/-- the first error of the point at an index -/
def ptErr (l : List Pt) (p : Pt) (i : Nat) : Int :=
  if refErr p.ref = 0 then
    if idxOf l p.ref < i then 7
    else if i + 1 = l.length then (if lastOk p then 0 else 1)
    else if winOk p.lo p.hi then (if 2 < p.dir then 17 else 0) else 2
  else 5
def chkFrom (l : List Pt) (i : Nat) : List Pt → Int
  | [] => 0
  | p :: r => if ptErr l p i = 0 then chkFrom l (i + 1) r else ptErr l p i
def chkA (nm : List UInt8) (l : List Pt) : Int :=
  if nameB nm 8 then (if l.length < 2 then 1 else if 40 < l.length then 3 else chkFrom l 0 l) else 5
theorem chk_step {l : List Pt} {k : Nat} (h : k < l.length) : chkFrom l k (l.drop k) = if ptErr l l[k] k = 0 then chkFrom l (k + 1) (l.drop (k + 1)) else ptErr l l[k] k := by
  rw [List.drop_eq_getElem_cons h]; rfl
theorem chk_end {l : List Pt} {k : Nat} (h : l.length ≤ k) : chkFrom l k (l.drop k) = 0 := by
  rw [List.drop_eq_nil_of_le h]; rfl
set_option maxHeartbeats 400000 in
theorem free_any (w : World) : Calls Tryz.prog 116 #[] w fun e w' => e = .returned (.agg #[.int .i64 (-200000), .int .i64 6000000]) ∧ w' = w.alloc (.cells #[.int .i64 (-200000), .int .i64 6000000] 40) := by
  go_enter Tryz.func116, Tryz.ntmps116
  go_wp2
  exact bodyPost_ret (v := .agg #[.int .i64 (-200000), .int .i64 6000000]) (by simp [results, Tryz.results116, go_sem]) rfl ⟨rfl, rfl⟩
theorem ptErr_ref {l : List Pt} {p : Pt} {i : Nat} (h : ¬ refErr p.ref = 0) : ptErr l p i = 5 := by unfold ptErr; rw [if_neg h]
theorem ptErr_twice {l : List Pt} {p : Pt} {i : Nat} (h : refErr p.ref = 0) (h2 : idxOf l p.ref < i) : ptErr l p i = 7 := by unfold ptErr; rw [if_pos h, if_pos h2]
theorem ptErr_last {l : List Pt} {p : Pt} {i : Nat} (h : refErr p.ref = 0) (h2 : ¬ idxOf l p.ref < i) (h3 : i + 1 = l.length) : ptErr l p i = if lastOk p then 0 else 1 := by unfold ptErr; rw [if_pos h, if_neg h2, if_pos h3]
theorem ptErr_mid {l : List Pt} {p : Pt} {i : Nat} (h : refErr p.ref = 0) (h2 : ¬ idxOf l p.ref < i) (h3 : ¬ i + 1 = l.length) : ptErr l p i = if winOk p.lo p.hi then (if 2 < p.dir then 17 else 0) else 2 := by unfold ptErr; rw [if_pos h, if_neg h2, if_neg h3]
theorem ptErr_ways (l : List Pt) (p : Pt) (i : Nat) :
    (¬ refErr p.ref = 0 ∧ ptErr l p i = 5) ∨ (refErr p.ref = 0 ∧ ((idxOf l p.ref < i ∧ ptErr l p i = 7) ∨ ((i : Int) ≤ idxOf l p.ref ∧
      ((((i : Int) == (l.length : Int) - 1) = true ∧ ((p.lo = -200000 ∧ p.hi = 6000000 ∧ p.dir = 0 ∧ ptErr l p i = 0) ∨ (¬ p.lo = -200000 ∧ ptErr l p i = 1) ∨ (p.lo = -200000 ∧ ¬ p.hi = 6000000 ∧ ptErr l p i = 1) ∨ (p.lo = -200000 ∧ p.hi = 6000000 ∧ ¬ p.dir = 0 ∧ ptErr l p i = 1))) ∨
       (((i : Int) == (l.length : Int) - 1) = false ∧ ((p.lo < -200000 ∧ ptErr l p i = 2) ∨ (-200000 ≤ p.lo ∧ p.hi < p.lo ∧ ptErr l p i = 2) ∨ (-200000 ≤ p.lo ∧ p.lo ≤ p.hi ∧ 6000000 < p.hi ∧ ptErr l p i = 2) ∨ (-200000 ≤ p.lo ∧ p.lo ≤ p.hi ∧ p.hi ≤ 6000000 ∧ 2 < (p.dir : Int) ∧ ptErr l p i = 17) ∨ (-200000 ≤ p.lo ∧ p.lo ≤ p.hi ∧ p.hi ≤ 6000000 ∧ (p.dir : Int) ≤ 2 ∧ ptErr l p i = 0))))))) := by
  by_cases h : refErr p.ref = 0
  · refine .inr ⟨h, ?_⟩
    by_cases h2 : idxOf l p.ref < i
    · exact .inl ⟨h2, ptErr_twice h h2⟩
    · refine .inr ⟨by omega, ?_⟩
      by_cases h3 : i + 1 = l.length
      · refine .inl ⟨by rw [beq_iff_eq]; omega, ?_⟩
        rw [ptErr_last h h2 h3]
        unfold lastOk
        by_cases a : p.lo = -200000
        · by_cases b : p.hi = 6000000
          · by_cases c : p.dir = 0
            · exact .inl ⟨a, b, c, by simp [a, b, c]⟩
            · exact .inr (.inr (.inr ⟨a, b, c, by simp [c]⟩))
          · exact .inr (.inr (.inl ⟨a, b, by simp [b]⟩))
        · exact .inr (.inl ⟨a, by simp [a]⟩)
      · refine .inr ⟨by rw [beq_eq_false_iff_ne]; omega, ?_⟩
        rw [ptErr_mid h h2 h3]
        unfold winOk
        by_cases a : -200000 ≤ p.lo
        · by_cases b : p.lo ≤ p.hi
          · by_cases c : p.hi ≤ 6000000
            · by_cases d : 2 < p.dir
              · exact .inr (.inr (.inr (.inl ⟨a, b, c, by omega, by simp [a, b, c, d]⟩)))
              · exact .inr (.inr (.inr (.inr ⟨a, b, c, by omega, by simp [a, b, c, d]⟩)))
            · exact .inr (.inr (.inl ⟨a, b, by omega, by simp [c]⟩))
          · exact .inr (.inl ⟨a, by omega, by simp [b]⟩)
        · exact .inl ⟨by omega, by simp [a]⟩
  · exact .inl ⟨h, ptErr_ref h⟩
theorem win_neq {a b c d : Int} (h : ¬ (a = c ∧ b = d)) (w : World) : (binOp .neq 40 (.agg #[.int .i64 a, .int .i64 b]) (.agg #[.int .i64 c, .int .i64 d])).run Tryz.prog w = .ok (.bool true) w := by
  go_simp
  intro h1 h2
  exact h ⟨h1, h2⟩
/-- two boxes that the call laid: the airway's and the point's -/
structure Boxes (w w1 : World) (nm : ByteArray) (v : Value) (p : Pt) : Prop where
  size : w.heap.size + 1 < w1.heap.size
  nm : w1.cell? ⟨w.heap.size, 0, none⟩ = some (.string nm)
  pts : w1.cell? ⟨w.heap.size, 1, none⟩ = some v
  ref : w1.cell? ⟨w.heap.size + 1, 0, none⟩ = some (.string (sb p.ref))
  lo : w1.cell? ⟨w.heap.size + 1, 1, none⟩ = some (.int .i64 p.lo)
  hi : w1.cell? ⟨w.heap.size + 1, 2, none⟩ = some (.int .i64 p.hi)
  dir : w1.cell? ⟨w.heap.size + 1, 3, none⟩ = some (.int .u8 (p.dir : Int))
theorem boxes_new (w : World) (nm : ByteArray) (v : Value) (p : Pt) (t u : TypeId) (m : Nat) : Boxes w (((w.alloc (.cells #[.string nm, v] t)).alloc (.cells #[.string (sb p.ref), .int .i64 p.lo, .int .i64 p.hi, .int .u8 (p.dir : Int)] u)).drewN m) nm v p := by
  constructor <;> simp [go_sem]
theorem Boxes.below {w w1 w2 : World} {nm : ByteArray} {v : Value} {p : Pt} (h : Boxes w w1 nm v p) (hb : Below w1.heap.size w1 w2) : Boxes w w2 nm v p := by
  obtain ⟨h0, h1, h2, h3, h4, h5, h6⟩ := h
  have l0 : w.heap.size < w1.heap.size := by omega
  exact ⟨Nat.lt_of_lt_of_le h0 hb.size, (hb.cell (p := ⟨_, _, none⟩) l0).trans h1, (hb.cell (p := ⟨_, _, none⟩) l0).trans h2, (hb.cell (p := ⟨_, _, none⟩) h0).trans h3, (hb.cell (p := ⟨_, _, none⟩) h0).trans h4, (hb.cell (p := ⟨_, _, none⟩) h0).trans h5, (hb.cell (p := ⟨_, _, none⟩) h0).trans h6⟩
set_option maxRecDepth 100000 in
set_option maxHeartbeats 4000000 in
theorem checkPoint_any (nm : ByteArray) (v : Value) (l : List Pt) (i : Nat) (w : World) (h : PtsR w v l) (hi : i < l.length) :
    Calls Tryz.prog 73 #[.agg #[.string nm, v], .int .i64 (i : Int)] w fun e w' => e = .returned (.int .i64 (ptErr l l[i] i)) ∧ Below w.heap.size w w' := by
  obtain ⟨A, c, rfl, hc, hm⟩ := h.form
  unfold maxLen at hm
  obtain ⟨g, o, c', hA, hg, k0, k1, k2, k3⟩ := h.at_ hi
  simp only [Value.slice.injEq, true_and] at hA
  obtain ⟨rfl, rfl⟩ := hA
  have hp2 := h.2 _ (List.getElem_mem hi)
  have H := Lib.hid h
  obtain ⟨p, hp⟩ : ∃ p, l[i] = p := ⟨_, rfl⟩
  rw [hp] at k0 k1 k2 k3 hp2
  rw [hp]
  have hw := ptErr_ways l p i
  obtain ⟨er, he⟩ : ∃ er, ptErr l p i = er := ⟨_, rfl⟩
  rw [he] at hw
  rw [he]
  obtain ⟨n, hnn⟩ : ∃ n, l.length = n := ⟨_, rfl⟩
  rw [hnn] at hc H hi hw
  rw [hnn]
  obtain ⟨hps, hpd⟩ := hp2
  clear h hp he hnn
  have hi' : (i : Int) < (n : Int) := by omega
  go_enter Tryz.func73, Tryz.ntmps73
  go_wp2_with fail
  refine (splitRef_any (sb p.ref) _ hps).mono ?_
  rintro e1 w1 ⟨a, b, rfl, _, _, _, _, m, rfl⟩
  rw [bl_sb]
  have hB1 := Lib.hid (((((Below.refl w.heap.size w).alloc (Nat.le_refl _) (.cells #[.string nm, .slice (some ⟨g, o, none⟩) n c] 38)).alloc (by simp) (.cells #[.string (sb p.ref), .int .i64 p.lo, .int .i64 p.hi, .int .u8 (p.dir : Int)] 42)).trans (below_drewN' (Below.refl _ _) m)))
  rcases hw with ⟨h1, rfl⟩ | ⟨h1, hw⟩
  · have e1 : (refErr p.ref != 0) = true := bne_iff_ne.2 h1
    clear h1
    go_wp2
    go_ret
    exact ⟨rfl, hB1.out⟩
  rw [h1]
  have X1 := Lib.hid (boxes_new w nm (.slice (some ⟨g, o, none⟩) n c) p 38 42 m)
  clear h1
  go_wp2_with fail
  refine (index_any nm (sb p.ref) _ l _ (H.out.below hB1.out)).mono ?_
  rintro e1 w2 ⟨rfl, hb2⟩
  rw [bl_sb]
  have X2 := Lib.hid (X1.out.below hb2)
  have hB2 := Lib.hid (hB1.out.trans (hb2.mono (by simp; omega)))
  obtain ⟨ix, hix⟩ : ∃ ix, idxOf l p.ref = ix := ⟨_, rfl⟩
  rw [hix] at hw ⊢
  clear hix hb2 k0 k1 k2 k3 hB1 X1
  obtain ⟨x0, x1, x2, x3, x4, x5, x6⟩ := X2.out
  rcases hw with ⟨h2, rfl⟩ | ⟨h2, ⟨h3, hw⟩ | ⟨h3, hw⟩⟩
  · go_wp2
    go_ret
    exact ⟨rfl, hB2.out⟩
  · go_upto_region 8 with (fail)
    go_cut [43] (fun c wx => ∃ b : Bool, c = .bool b ∧ Hid (er = if b then 1 else 0) ∧ Below w.heap.size w wx)
    case first =>
      obtain ⟨pr, plo, phi, pd⟩ := p
      simp only at hw x3 x4 x5 x6
      have hbF : ∀ k, Below w.heap.size w ((w2.alloc (.cells #[.int .i64 (-200000), .int .i64 6000000] 40)).drewN k) := fun k => (hB2.out.alloc (by omega) _).trans (below_drewN' (Below.refl _ _) k)
      have HBF := Lib.hid hbF
      clear hbF
      rcases hw with ⟨rfl, rfl, rfl, rfl⟩ | ⟨c1, rfl⟩ | ⟨rfl, c2, rfl⟩ | ⟨rfl, rfl, c3, rfl⟩
      · skip
        first | go_region_with (go_at_call 116; refine (free_any _).mono ?_; rintro e w' ⟨rfl, rfl⟩) | fail
        all_goals
          go_wp2_with fail
          go_meet
          exact ⟨_, rfl, rfl, by first | exact HBF.out _ | exact below_ends (by omega) hB2.out⟩
      · have hneq := win_neq (a := plo) (b := phi) (c := -200000) (d := 6000000) (fun h => c1 h.1)
        clear c1
        first | go_region_with (go_at_call 116; refine (free_any _).mono ?_; rintro e w' ⟨rfl, rfl⟩) | fail
        all_goals
          go_wp2_with fail
          go_meet
          exact ⟨_, rfl, rfl, by first | exact HBF.out _ | exact below_ends (by omega) hB2.out⟩
      · have hneq := win_neq (a := -200000) (b := phi) (c := -200000) (d := 6000000) (fun h => c2 h.2)
        clear c2
        first | go_region_with (go_at_call 116; refine (free_any _).mono ?_; rintro e w' ⟨rfl, rfl⟩) | fail
        all_goals
          go_wp2_with fail
          go_meet
          exact ⟨_, rfl, rfl, by first | exact HBF.out _ | exact below_ends (by omega) hB2.out⟩
      · have e1 : ((pd : Int) != 0) = true := bne_iff_ne.2 (by omega)
        have e2 : ((pd : Int) == 0) = false := beq_eq_false_iff_ne.2 (by omega)
        clear c3
        first | go_region_with (go_at_call 116; refine (free_any _).mono ?_; rintro e w' ⟨rfl, rfl⟩) | fail
        all_goals
          go_wp2_with fail
          go_meet
          exact ⟨_, rfl, rfl, by first | exact HBF.out _ | exact below_ends (by omega) hB2.out⟩
    case rest =>
      obtain ⟨b, rfl, hb, hbx⟩ := hcut
      cases b
      · go_wp2
        go_ret
        exact ⟨ret_int (by rw [hb.out]; rfl), hbx⟩
      · go_wp2
        go_ret
        exact ⟨ret_int (by rw [hb.out]; rfl), hbx⟩
  · rcases hw with ⟨c1, rfl⟩ | ⟨c1, c2, rfl⟩ | ⟨c1, c2, c3, rfl⟩ | ⟨c1, c2, c3, c4, rfl⟩ | ⟨c1, c2, c3, c4, rfl⟩
    all_goals
      go_wp2
      go_ret
      exact ⟨rfl, hB2.out⟩
theorem chkA_name {nm : List UInt8} {l : List Pt} (h : nameB nm 8 = false) : chkA nm l = 5 := by unfold chkA; rw [h]; rfl
theorem chkA_few {nm : List UInt8} {l : List Pt} (h : nameB nm 8 = true) (h2 : l.length < 2) : chkA nm l = 1 := by unfold chkA; rw [h, if_pos rfl, if_pos h2]
theorem chkA_many {nm : List UInt8} {l : List Pt} (h : nameB nm 8 = true) (h2 : 40 < l.length) : chkA nm l = 3 := by unfold chkA; rw [h, if_pos rfl, if_neg (by omega), if_pos h2]
theorem chkA_pts {nm : List UInt8} {l : List Pt} (h : nameB nm 8 = true) (h2 : 2 ≤ l.length) (h3 : l.length ≤ 40) : chkA nm l = chkFrom l 0 l := by unfold chkA; rw [h, if_pos rfl, if_neg (by omega), if_neg (by omega)]
set_option maxRecDepth 100000 in
set_option maxHeartbeats 4000000 in
theorem check_any (nm : ByteArray) (v : Value) (l : List Pt) (w : World) (h : PtsR w v l) (hnm : nm.size ≤ maxLen) :
    Calls Tryz.prog 27 #[.agg #[.string nm, v]] w fun e w' => e = .returned (.int .i64 (chkA (bl nm) l)) ∧ Below w.heap.size w w' := by
  obtain ⟨A, c, rfl, hc, hm⟩ := h.form
  unfold maxLen at hm
  have H := Lib.hid h
  clear h
  obtain ⟨n, hnn⟩ : ∃ n, l.length = n := ⟨_, rfl⟩
  rw [hnn] at hc H
  rw [hnn]
  have HN := Lib.hid hnn
  obtain ⟨x, hx⟩ : ∃ x, chkA (bl nm) l = x := ⟨_, rfl⟩
  rw [hx]
  have HXX := Lib.hid hx
  clear hnn hx
  go_enter Tryz.func27, Tryz.ntmps27
  go_wp2_with fail
  refine (name_any nm 8 _ hnm).mono ?_
  rintro e1 w1 ⟨rfl, rfl⟩
  have hB0 := Lib.hid ((Below.refl w.heap.size w).alloc (Nat.le_refl _) (.cells #[.string nm, .slice A n c] 38))
  cases hname : nameB (bl nm) 8
  · have HM := Lib.hid hname
    clear hname
    go_wp2
    go_ret
    exact ⟨ret_int ((chkA_name HM.out).symm.trans HXX.out), hB0.out⟩
  have HM := Lib.hid hname
  clear hname
  rcases (show n < 2 ∨ (2 ≤ n ∧ 40 < n) ∨ (2 ≤ n ∧ n ≤ 40) by omega) with h2 | ⟨h2, h40⟩ | ⟨h2, h40⟩
  · have h2' : (n : Int) < 2 := by omega
    go_wp2
    go_ret
    exact ⟨ret_int ((chkA_few HM.out (by rw [HN.out]; exact h2)).symm.trans HXX.out), hB0.out⟩
  · have h2' : (2 : Int) ≤ (n : Int) := by omega
    have h40' : (40 : Int) < (n : Int) := by omega
    go_wp2
    go_ret
    exact ⟨ret_int ((chkA_many HM.out (by rw [HN.out]; exact h40)).symm.trans HXX.out), hB0.out⟩
  · have h2' : (2 : Int) ≤ (n : Int) := by omega
    have h40' : (n : Int) ≤ 40 := by omega
    have HX := Lib.hid ((chkA_pts HM.out (by rw [HN.out]; exact h2) (by rw [HN.out]; exact h40)).symm.trans HXX.out)
    go_wp2
    go_loopw [23] (fun i wr => ∃ k : Nat, k ≤ n ∧ i = .int .i64 k ∧ Hid (chkFrom l k (l.drop k) = x) ∧ Below w.heap.size w wr ∧ Below (w.heap.size + 1) (w.alloc (.cells #[.string nm, .slice A n c] 38)) wr) (fun i _ => n - (intOf i).toNat)
    case atStart => exact ⟨0, Nat.zero_le _, rfl, HX.out, hB0.out, Below.refl _ _⟩
    case round =>
      obtain ⟨k, hk, rfl, hix, hbr, hbx⟩ := hrel
      by_cases hlt : k < n
      · have hkl : k < l.length := by rw [HN.out]; exact hlt
        have HS := Lib.hid (chk_step hkl)
        have b0 : wr.cell? ⟨w.heap.size, 0, none⟩ = some (.string nm) := (hbx.cell (p := ⟨w.heap.size, 0, none⟩) (by simp)).trans (by simp [go_sem])
        have b1 : wr.cell? ⟨w.heap.size, 1, none⟩ = some (.slice A n c) := (hbx.cell (p := ⟨w.heap.size, 1, none⟩) (by simp)).trans (by simp [go_sem])
        have bs : w.heap.size < wr.heap.size := Nat.lt_of_lt_of_le (by simp) hbx.size
        go_wp2_with fail
        refine (checkPoint_any nm _ l k _ (H.out.below hbr) hkl).mono ?_
        rintro e1 w2 ⟨rfl, hb2⟩
        have hbn := hbr.trans (hb2.mono hbr.size)
        have hbn2 := hbx.trans (hb2.mono bs)
        obtain ⟨er, he⟩ : ∃ er, ptErr l l[k] k = er := ⟨_, rfl⟩
        rw [he] at HS ⊢
        clear he hkl b0 b1
        by_cases h0 : er = 0
        · have e1 : (er != 0) = false := by rw [h0]; rfl
          have H0 := Lib.hid h0
          clear h0
          go_wp2
          go_roundw
          case rel => exact ⟨k + 1, hlt, by go_num, by unfold Hid; rw [← hix.out, HS.out, if_pos H0.out], hbn, hbn2⟩
          case measure => simp [intOf]; omega
        · have e1 : (er != 0) = true := bne_iff_ne.2 h0
          have H0 := Lib.hid h0
          clear h0
          go_wp2
          go_ret
          exact ⟨ret_int (by rw [← hix.out, HS.out, if_neg H0.out]), hbn⟩
      · have HE := Lib.hid (chk_end (l := l) (k := k) (by have := HN.out; omega))
        go_wp2
        go_ret
        exact ⟨ret_int (by rw [← hix.out, HE.out]), hbr⟩

end Go.Proofs.YtfdhinbojbohcaaGreatDoor
