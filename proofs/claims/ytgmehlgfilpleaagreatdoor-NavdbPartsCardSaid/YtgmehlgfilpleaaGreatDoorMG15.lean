/-
  Several texts as one.
-/
import Derived.Test.YtgmehlgfilpleaaGreatDoorMG13
import Derived.Deep.RegionHeld3
import Derived.Deep.DeepCutAuto
import Derived.Deep.CutRange
import Derived.Test.YtgmehlgfilpleaaGreatDoorMG10
import Derived.Test.YtgmehlgfilpleaaGreatDoorMG12
import Derived.Maps.AppendAt
import Derived.Deep.AppendLies
import Derived.Test.YtgmehlgfilpleaaGreatDoorMG09
import Derived.Test.YtgmehlgfilpleaaGreatDoorRead
import Derived.Test.YtgmehlgfilpleaaGreatDoorMG03
namespace Go.Proofs.YtgmehlgfilpleaaGreatDoor
open Go.RowKit
set_option linter.unusedVariables false
set_option linter.unusedSimpArgs false

def winOk (lo hi : Int) : Bool := decide (-200000 ≤ lo) && decide (lo ≤ hi) && decide (hi ≤ 6000000)
def lastOk (p : Pt) : Bool := decide (p.lo = -200000) && decide (p.hi = 6000000) && decide (p.dir = 0)
/-- the first error of the point at an index -/
def ptErr (l : List Pt) (p : Pt) (i : Nat) : Int :=
  if refErr p.ref = 0 then
    if idxOf l p.ref < i then 7
    else if i + 1 = l.length then (if lastOk p then 0 else 1)
    else if winOk p.lo p.hi then (if 2 < p.dir then 17 else 0) else 2
  else 5
def chkFrom (l : List Pt) (i : Nat) : List Pt → Int
  | [] => 0
  | p :: r => if ptErr l p i = 0 then chkFrom l (i + 1) r else ptErr l p i
def chkA (nm : List UInt8) (l : List Pt) : Int :=
  if nameB nm 8 then (if l.length < 2 then 1 else if 40 < l.length then 3 else chkFrom l 0 l) else 5
theorem chk_step {l : List Pt} {k : Nat} (h : k < l.length) : chkFrom l k (l.drop k) = if ptErr l l[k] k = 0 then chkFrom l (k + 1) (l.drop (k + 1)) else ptErr l l[k] k := by
  rw [List.drop_eq_getElem_cons h]; rfl
theorem chk_end {l : List Pt} {k : Nat} (h : l.length ≤ k) : chkFrom l k (l.drop k) = 0 := by
  rw [List.drop_eq_nil_of_le h]; rfl
set_option maxHeartbeats 400000 in
theorem free_any (w : World) : Calls Tryz.prog 149 #[] w fun e w' => e = .returned (.agg #[.int .i64 (-200000), .int .i64 6000000]) ∧ w' = w.alloc (.cells #[.int .i64 (-200000), .int .i64 6000000] 51) := by
  go_enter Tryz.func149, Tryz.ntmps149
  go_wp2
  exact bodyPost_ret (v := .agg #[.int .i64 (-200000), .int .i64 6000000]) (by simp [results, Tryz.results149, go_sem]) rfl ⟨rfl, rfl⟩
theorem ptErr_ref {l : List Pt} {p : Pt} {i : Nat} (h : ¬ refErr p.ref = 0) : ptErr l p i = 5 := by unfold ptErr; rw [if_neg h]
theorem ptErr_twice {l : List Pt} {p : Pt} {i : Nat} (h : refErr p.ref = 0) (h2 : idxOf l p.ref < i) : ptErr l p i = 7 := by unfold ptErr; rw [if_pos h, if_pos h2]
theorem ptErr_last {l : List Pt} {p : Pt} {i : Nat} (h : refErr p.ref = 0) (h2 : ¬ idxOf l p.ref < i) (h3 : i + 1 = l.length) : ptErr l p i = if lastOk p then 0 else 1 := by unfold ptErr; rw [if_pos h, if_neg h2, if_pos h3]
theorem ptErr_mid {l : List Pt} {p : Pt} {i : Nat} (h : refErr p.ref = 0) (h2 : ¬ idxOf l p.ref < i) (h3 : ¬ i + 1 = l.length) : ptErr l p i = if winOk p.lo p.hi then (if 2 < p.dir then 17 else 0) else 2 := by unfold ptErr; rw [if_pos h, if_neg h2, if_neg h3]
theorem ptErr_ways (l : List Pt) (p : Pt) (i : Nat) :
    (¬ refErr p.ref = 0 ∧ ptErr l p i = 5) ∨ (refErr p.ref = 0 ∧ ((idxOf l p.ref < i ∧ ptErr l p i = 7) ∨ ((i : Int) ≤ idxOf l p.ref ∧
      ((((i : Int) == (l.length : Int) - 1) = true ∧ ((p.lo = -200000 ∧ p.hi = 6000000 ∧ p.dir = 0 ∧ ptErr l p i = 0) ∨ (¬ p.lo = -200000 ∧ ptErr l p i = 1) ∨ (p.lo = -200000 ∧ ¬ p.hi = 6000000 ∧ ptErr l p i = 1) ∨ (p.lo = -200000 ∧ p.hi = 6000000 ∧ ¬ p.dir = 0 ∧ ptErr l p i = 1))) ∨
       (((i : Int) == (l.length : Int) - 1) = false ∧ ((p.lo < -200000 ∧ ptErr l p i = 2) ∨ (-200000 ≤ p.lo ∧ p.hi < p.lo ∧ ptErr l p i = 2) ∨ (-200000 ≤ p.lo ∧ p.lo ≤ p.hi ∧ 6000000 < p.hi ∧ ptErr l p i = 2) ∨ (-200000 ≤ p.lo ∧ p.lo ≤ p.hi ∧ p.hi ≤ 6000000 ∧ 2 < (p.dir : Int) ∧ ptErr l p i = 17) ∨ (-200000 ≤ p.lo ∧ p.lo ≤ p.hi ∧ p.hi ≤ 6000000 ∧ (p.dir : Int) ≤ 2 ∧ ptErr l p i = 0))))))) := by
  by_cases h : refErr p.ref = 0
  · refine .inr ⟨h, ?_⟩
    by_cases h2 : idxOf l p.ref < i
    · exact .inl ⟨h2, ptErr_twice h h2⟩
    · refine .inr ⟨by omega, ?_⟩
      by_cases h3 : i + 1 = l.length
      · refine .inl ⟨by rw [beq_iff_eq]; omega, ?_⟩
        rw [ptErr_last h h2 h3]
        unfold lastOk
        by_cases a : p.lo = -200000
        · by_cases b : p.hi = 6000000
          · by_cases c : p.dir = 0
            · exact .inl ⟨a, b, c, by simp [a, b, c]⟩
            · exact .inr (.inr (.inr ⟨a, b, c, by simp [c]⟩))
          · exact .inr (.inr (.inl ⟨a, b, by simp [b]⟩))
        · exact .inr (.inl ⟨a, by simp [a]⟩)
      · refine .inr ⟨by rw [beq_eq_false_iff_ne]; omega, ?_⟩
        rw [ptErr_mid h h2 h3]
        unfold winOk
        by_cases a : -200000 ≤ p.lo
        · by_cases b : p.lo ≤ p.hi
          · by_cases c : p.hi ≤ 6000000
            · by_cases d : 2 < p.dir
              · exact .inr (.inr (.inr (.inl ⟨a, b, c, by omega, by simp [a, b, c, d]⟩)))
              · exact .inr (.inr (.inr (.inr ⟨a, b, c, by omega, by simp [a, b, c, d]⟩)))
            · exact .inr (.inr (.inl ⟨a, b, by omega, by simp [c]⟩))
          · exact .inr (.inl ⟨a, by omega, by simp [b]⟩)
        · exact .inl ⟨by omega, by simp [a]⟩
  · exact .inl ⟨h, ptErr_ref h⟩
theorem win_neq {a b c d : Int} (h : ¬ (a = c ∧ b = d)) (w : World) : (binOp .neq 51 (.agg #[.int .i64 a, .int .i64 b]) (.agg #[.int .i64 c, .int .i64 d])).run Tryz.prog w = .ok (.bool true) w := by
  go_simp
  intro h1 h2
  exact h ⟨h1, h2⟩
/-- two boxes that the call laid: the airway's and the point's -/
structure Boxes (w w1 : World) (nm : ByteArray) (v : Value) (p : Pt) : Prop where
  size : w.heap.size + 1 < w1.heap.size
  nm : w1.cell? ⟨w.heap.size, 0, none⟩ = some (.string nm)
  pts : w1.cell? ⟨w.heap.size, 1, none⟩ = some v
  ref : w1.cell? ⟨w.heap.size + 1, 0, none⟩ = some (.string (sb p.ref))
  lo : w1.cell? ⟨w.heap.size + 1, 1, none⟩ = some (.int .i64 p.lo)
  hi : w1.cell? ⟨w.heap.size + 1, 2, none⟩ = some (.int .i64 p.hi)
  dir : w1.cell? ⟨w.heap.size + 1, 3, none⟩ = some (.int .u8 (p.dir : Int))
theorem boxes_new (w : World) (nm : ByteArray) (v : Value) (p : Pt) (t u : TypeId) (m : Nat) : Boxes w (((w.alloc (.cells #[.string nm, v] t)).alloc (.cells #[.string (sb p.ref), .int .i64 p.lo, .int .i64 p.hi, .int .u8 (p.dir : Int)] u)).drewN m) nm v p := by
  constructor <;> simp [go_sem]
theorem Boxes.below {w w1 w2 : World} {nm : ByteArray} {v : Value} {p : Pt} (h : Boxes w w1 nm v p) (hb : Below w1.heap.size w1 w2) : Boxes w w2 nm v p := by
  obtain ⟨h0, h1, h2, h3, h4, h5, h6⟩ := h
  have l0 : w.heap.size < w1.heap.size := by omega
  exact ⟨Nat.lt_of_lt_of_le h0 hb.size, (hb.cell (p := ⟨_, _, none⟩) l0).trans h1, (hb.cell (p := ⟨_, _, none⟩) l0).trans h2, (hb.cell (p := ⟨_, _, none⟩) h0).trans h3, (hb.cell (p := ⟨_, _, none⟩) h0).trans h4, (hb.cell (p := ⟨_, _, none⟩) h0).trans h5, (hb.cell (p := ⟨_, _, none⟩) h0).trans h6⟩
set_option maxRecDepth 100000 in
set_option maxHeartbeats 4000000 in
theorem checkPoint_any (nm : ByteArray) (v : Value) (l : List Pt) (i : Nat) (w : World) (h : PtsR w v l) (hi : i < l.length) :
    Calls Tryz.prog 69 #[.agg #[.string nm, v], .int .i64 (i : Int)] w fun e w' => e = .returned (.int .i64 (ptErr l l[i] i)) ∧ Below w.heap.size w w' := by
  obtain ⟨A, c, rfl, hc, hm⟩ := h.form
  unfold maxLen at hm
  obtain ⟨g, o, c', hA, hg, k0, k1, k2, k3⟩ := h.at_ hi
  simp only [Value.slice.injEq, true_and] at hA
  obtain ⟨rfl, rfl⟩ := hA
  have hp2 := h.2 _ (List.getElem_mem hi)
  have H := Lib.hid h
  obtain ⟨p, hp⟩ : ∃ p, l[i] = p := ⟨_, rfl⟩
  rw [hp] at k0 k1 k2 k3 hp2
  rw [hp]
  have hw := ptErr_ways l p i
  obtain ⟨er, he⟩ : ∃ er, ptErr l p i = er := ⟨_, rfl⟩
  rw [he] at hw
  rw [he]
  obtain ⟨n, hnn⟩ : ∃ n, l.length = n := ⟨_, rfl⟩
  rw [hnn] at hc H hi hw
  rw [hnn]
  obtain ⟨hps, hpd⟩ := hp2
  clear h hp he hnn
  have hi' : (i : Int) < (n : Int) := by omega
  go_enter Tryz.func69, Tryz.ntmps69
  go_wp2_with fail
  refine (splitRef_any (sb p.ref) _ hps).mono ?_
  rintro e1 w1 ⟨a, b, rfl, _, _, _, _, m, rfl⟩
  rw [bl_sb]
  have hB1 := Lib.hid (((((Below.refl w.heap.size w).alloc (Nat.le_refl _) (.cells #[.string nm, .slice (some ⟨g, o, none⟩) n c] 48)).alloc (by simp) (.cells #[.string (sb p.ref), .int .i64 p.lo, .int .i64 p.hi, .int .u8 (p.dir : Int)] 53)).trans (below_drewN' (Below.refl _ _) m)))
  rcases hw with ⟨h1, rfl⟩ | ⟨h1, hw⟩
  · have e1 : (refErr p.ref != 0) = true := bne_iff_ne.2 h1
    clear h1
    go_wp2
    go_ret
    exact ⟨rfl, hB1.out⟩
  rw [h1]
  have X1 := Lib.hid (boxes_new w nm (.slice (some ⟨g, o, none⟩) n c) p 48 53 m)
  clear h1
  go_wp2_with fail
  refine (index_any nm (sb p.ref) _ l _ (H.out.below hB1.out)).mono ?_
  rintro e1 w2 ⟨rfl, hb2⟩
  rw [bl_sb]
  have X2 := Lib.hid (X1.out.below hb2)
  have hB2 := Lib.hid (hB1.out.trans (hb2.mono (by simp; omega)))
  obtain ⟨ix, hix⟩ : ∃ ix, idxOf l p.ref = ix := ⟨_, rfl⟩
  rw [hix] at hw ⊢
  clear hix hb2 k0 k1 k2 k3 hB1 X1
  obtain ⟨x0, x1, x2, x3, x4, x5, x6⟩ := X2.out
  rcases hw with ⟨h2, rfl⟩ | ⟨h2, ⟨h3, hw⟩ | ⟨h3, hw⟩⟩
  · go_wp2
    go_ret
    exact ⟨rfl, hB2.out⟩
  · go_upto_region 8 with (fail)
    go_cut [43] (fun c wx => ∃ b : Bool, c = .bool b ∧ Hid (er = if b then 1 else 0) ∧ Below w.heap.size w wx)
    case first =>
      obtain ⟨pr, plo, phi, pd⟩ := p
      simp only at hw x3 x4 x5 x6
      have hbF : ∀ k, Below w.heap.size w ((w2.alloc (.cells #[.int .i64 (-200000), .int .i64 6000000] 51)).drewN k) := fun k => (hB2.out.alloc (by omega) _).trans (below_drewN' (Below.refl _ _) k)
      have HBF := Lib.hid hbF
      clear hbF
      rcases hw with ⟨rfl, rfl, rfl, rfl⟩ | ⟨c1, rfl⟩ | ⟨rfl, c2, rfl⟩ | ⟨rfl, rfl, c3, rfl⟩
      · skip
        first | go_region_with (go_at_call 149; refine (free_any _).mono ?_; rintro e w' ⟨rfl, rfl⟩) | fail
        all_goals
          go_wp2_with fail
          go_meet
          exact ⟨_, rfl, rfl, by first | exact HBF.out _ | exact below_ends (by omega) hB2.out⟩
      · have hneq := win_neq (a := plo) (b := phi) (c := -200000) (d := 6000000) (fun h => c1 h.1)
        clear c1
        first | go_region_with (go_at_call 149; refine (free_any _).mono ?_; rintro e w' ⟨rfl, rfl⟩) | fail
        all_goals
          go_wp2_with fail
          go_meet
          exact ⟨_, rfl, rfl, by first | exact HBF.out _ | exact below_ends (by omega) hB2.out⟩
      · have hneq := win_neq (a := -200000) (b := phi) (c := -200000) (d := 6000000) (fun h => c2 h.2)
        clear c2
        first | go_region_with (go_at_call 149; refine (free_any _).mono ?_; rintro e w' ⟨rfl, rfl⟩) | fail
        all_goals
          go_wp2_with fail
          go_meet
          exact ⟨_, rfl, rfl, by first | exact HBF.out _ | exact below_ends (by omega) hB2.out⟩
      · have e1 : ((pd : Int) != 0) = true := bne_iff_ne.2 (by omega)
        have e2 : ((pd : Int) == 0) = false := beq_eq_false_iff_ne.2 (by omega)
        clear c3
        first | go_region_with (go_at_call 149; refine (free_any _).mono ?_; rintro e w' ⟨rfl, rfl⟩) | fail
        all_goals
          go_wp2_with fail
          go_meet
          exact ⟨_, rfl, rfl, by first | exact HBF.out _ | exact below_ends (by omega) hB2.out⟩
    case rest =>
      obtain ⟨b, rfl, hb, hbx⟩ := hcut
      cases b
      · go_wp2
        go_ret
        exact ⟨ret_int (by rw [hb.out]; rfl), hbx⟩
      · go_wp2
        go_ret
        exact ⟨ret_int (by rw [hb.out]; rfl), hbx⟩
  · rcases hw with ⟨c1, rfl⟩ | ⟨c1, c2, rfl⟩ | ⟨c1, c2, c3, rfl⟩ | ⟨c1, c2, c3, c4, rfl⟩ | ⟨c1, c2, c3, c4, rfl⟩
    all_goals
      go_wp2
      go_ret
      exact ⟨rfl, hB2.out⟩
theorem chkA_name {nm : List UInt8} {l : List Pt} (h : nameB nm 8 = false) : chkA nm l = 5 := by unfold chkA; rw [h]; rfl
theorem chkA_few {nm : List UInt8} {l : List Pt} (h : nameB nm 8 = true) (h2 : l.length < 2) : chkA nm l = 1 := by unfold chkA; rw [h, if_pos rfl, if_pos h2]
theorem chkA_many {nm : List UInt8} {l : List Pt} (h : nameB nm 8 = true) (h2 : 40 < l.length) : chkA nm l = 3 := by unfold chkA; rw [h, if_pos rfl, if_neg (by omega), if_pos h2]
theorem chkA_pts {nm : List UInt8} {l : List Pt} (h : nameB nm 8 = true) (h2 : 2 ≤ l.length) (h3 : l.length ≤ 40) : chkA nm l = chkFrom l 0 l := by unfold chkA; rw [h, if_pos rfl, if_neg (by omega), if_neg (by omega)]
set_option maxRecDepth 100000 in
set_option maxHeartbeats 4000000 in
theorem check_any (nm : ByteArray) (v : Value) (l : List Pt) (w : World) (h : PtsR w v l) (hnm : nm.size ≤ maxLen) :
    Calls Tryz.prog 16 #[.agg #[.string nm, v]] w fun e w' => e = .returned (.int .i64 (chkA (bl nm) l)) ∧ Below w.heap.size w w' := by
  obtain ⟨A, c, rfl, hc, hm⟩ := h.form
  unfold maxLen at hm
  have H := Lib.hid h
  clear h
  obtain ⟨n, hnn⟩ : ∃ n, l.length = n := ⟨_, rfl⟩
  rw [hnn] at hc H
  rw [hnn]
  have HN := Lib.hid hnn
  obtain ⟨x, hx⟩ : ∃ x, chkA (bl nm) l = x := ⟨_, rfl⟩
  rw [hx]
  have HXX := Lib.hid hx
  clear hnn hx
  go_enter Tryz.func16, Tryz.ntmps16
  go_wp2_with fail
  refine (name_any nm 8 _ hnm).mono ?_
  rintro e1 w1 ⟨rfl, rfl⟩
  have hB0 := Lib.hid ((Below.refl w.heap.size w).alloc (Nat.le_refl _) (.cells #[.string nm, .slice A n c] 48))
  cases hname : nameB (bl nm) 8
  · have HM := Lib.hid hname
    clear hname
    go_wp2
    go_ret
    exact ⟨ret_int ((chkA_name HM.out).symm.trans HXX.out), hB0.out⟩
  have HM := Lib.hid hname
  clear hname
  rcases (show n < 2 ∨ (2 ≤ n ∧ 40 < n) ∨ (2 ≤ n ∧ n ≤ 40) by omega) with h2 | ⟨h2, h40⟩ | ⟨h2, h40⟩
  · have h2' : (n : Int) < 2 := by omega
    go_wp2
    go_ret
    exact ⟨ret_int ((chkA_few HM.out (by rw [HN.out]; exact h2)).symm.trans HXX.out), hB0.out⟩
  · have h2' : (2 : Int) ≤ (n : Int) := by omega
    have h40' : (40 : Int) < (n : Int) := by omega
    go_wp2
    go_ret
    exact ⟨ret_int ((chkA_many HM.out (by rw [HN.out]; exact h40)).symm.trans HXX.out), hB0.out⟩
  · have h2' : (2 : Int) ≤ (n : Int) := by omega
    have h40' : (n : Int) ≤ 40 := by omega
    have HX := Lib.hid ((chkA_pts HM.out (by rw [HN.out]; exact h2) (by rw [HN.out]; exact h40)).symm.trans HXX.out)
    go_wp2
    go_loopw [23] (fun i wr => ∃ k : Nat, k ≤ n ∧ i = .int .i64 k ∧ Hid (chkFrom l k (l.drop k) = x) ∧ Below w.heap.size w wr ∧ Below (w.heap.size + 1) (w.alloc (.cells #[.string nm, .slice A n c] 48)) wr) (fun i _ => n - (intOf i).toNat)
    case atStart => exact ⟨0, Nat.zero_le _, rfl, HX.out, hB0.out, Below.refl _ _⟩
    case round =>
      obtain ⟨k, hk, rfl, hix, hbr, hbx⟩ := hrel
      by_cases hlt : k < n
      · have hkl : k < l.length := by rw [HN.out]; exact hlt
        have HS := Lib.hid (chk_step hkl)
        have b0 : wr.cell? ⟨w.heap.size, 0, none⟩ = some (.string nm) := (hbx.cell (p := ⟨w.heap.size, 0, none⟩) (by simp)).trans (by simp [go_sem])
        have b1 : wr.cell? ⟨w.heap.size, 1, none⟩ = some (.slice A n c) := (hbx.cell (p := ⟨w.heap.size, 1, none⟩) (by simp)).trans (by simp [go_sem])
        have bs : w.heap.size < wr.heap.size := Nat.lt_of_lt_of_le (by simp) hbx.size
        go_wp2_with fail
        refine (checkPoint_any nm _ l k _ (H.out.below hbr) hkl).mono ?_
        rintro e1 w2 ⟨rfl, hb2⟩
        have hbn := hbr.trans (hb2.mono hbr.size)
        have hbn2 := hbx.trans (hb2.mono bs)
        obtain ⟨er, he⟩ : ∃ er, ptErr l l[k] k = er := ⟨_, rfl⟩
        rw [he] at HS ⊢
        clear he hkl b0 b1
        by_cases h0 : er = 0
        · have e1 : (er != 0) = false := by rw [h0]; rfl
          have H0 := Lib.hid h0
          clear h0
          go_wp2
          go_roundw
          case rel => exact ⟨k + 1, hlt, by go_num, by unfold Hid; rw [← hix.out, HS.out, if_pos H0.out], hbn, hbn2⟩
          case measure => simp [intOf]; omega
        · have e1 : (er != 0) = true := bne_iff_ne.2 h0
          have H0 := Lib.hid h0
          clear h0
          go_wp2
          go_ret
          exact ⟨ret_int (by rw [← hix.out, HS.out, if_neg H0.out]), hbn⟩
      · have HE := Lib.hid (chk_end (l := l) (k := k) (by have := HN.out; omega))
        go_wp2
        go_ret
        exact ⟨ret_int (by rw [← hix.out, HE.out]), hbr⟩


theorem ficells_drop : ∀ (l : List FldI) (k : Nat), ficells (l.drop k) = (ficells l).drop (k * 2)
  | [], k => by simp [ficells]
  | f :: l, 0 => by simp
  | f :: l, k + 1 => by
    rw [List.drop_succ_cons, ficells_cons, ficells_drop l k, show (k + 1) * 2 = k * 2 + 1 + 1 by omega, List.drop_succ_cons, List.drop_succ_cons]
theorem FsR.tx {w : World} {g b o c : Nat} {fs : List FldI} (h : FsR w g (.slice (some ⟨b, o, none⟩) fs.length c) fs) (hg : g ≤ w.heap.size) {k : Nat} (hk : k < fs.length) :
    TxR w (.slice (some ⟨b, o + k * 2, none⟩) (fs.length - k) (c - k)) ((fs.drop k).map (·.1)) := by
  obtain ⟨A, c', hv, hc, hm, hf, hr⟩ := h
  obtain ⟨b', o', rfl, hb, hx⟩ := hr (by omega)
  simp only [Value.slice.injEq, Option.some.injEq, Addr.mk.injEq, true_and, and_true] at hv
  obtain ⟨⟨rfl, rfl⟩, rfl⟩ := hv
  have hl : ((fs.drop k).map (·.1)).length = fs.length - k := by rw [List.length_map, List.length_drop]
  refine ⟨ficells (fs.drop k), ⟨by rw [ficells_len, hl, List.length_drop], _, _, by rw [hl], by rw [hl]; omega, by omega, fun _ => ⟨b, o + k * 2, rfl, by omega, fun j u hu => ?_⟩⟩, fun j hj => ?_⟩
  · rw [ficells_drop, List.getElem?_drop] at hu
    have := hx _ _ hu
    rwa [← Nat.add_assoc] at this
  · rw [hl] at hj
    have := ficells_at (fs.drop k) j (by rw [List.length_drop]; exact hj)
    rw [List.getElem_map]
    exact ⟨this.1, _, this.2⟩

/-- a record: its number, its fields -/
abbrev Ln := Int × List FldI
def airW : List (List UInt8) := [[65, 73, 82, 87, 65, 89]]
def viaW : List (List UInt8) := [[86, 73, 65]]
def dirW : List (List UInt8) := [[66, 79, 84, 72], [70, 79, 82, 87, 65, 82, 68], [66, 65, 67, 75, 87, 65, 82, 68]]
/-- the name of an airway's first record -/
def hd1 (x : Ln) : Sc := (scan0 x.1 x.2).tk (wordE airW)
def hd2 (x : Ln) : Sc := (hd1 x).tk (nameSE 8)
def hdNm (x : Ln) : List UInt8 := (hd1 x).tv [] (nameSV 8)
/-- the point of another record -/
def via1 (x : Ln) : Sc := (scan0 x.1 x.2).tk (wordE viaW)
def via2 (x : Ln) : Sc := (via1 x).take
def via3 (x : Ln) : Sc := if refErr (via1 x).text = 0 then via2 x else (via2 x).note (via2 x).la 5
def via4 (x : Ln) : Sc := (via3 x).tk winSEr
def via5 (x : Ln) : Sc := (via4 x).tk (wordE dirW)
def viaS (x : Ln) (last : Bool) : Sc := if last then via3 x else via5 x
def viaDir (x : Ln) : Int := (via4 x).tv (-1) (fun t => wordAt dirW t 0)
def viaP (x : Ln) (last : Bool) : Pt := if last then ⟨(via1 x).text, -200000, 6000000, 0⟩ else ⟨(via1 x).text, (via3 x).tv 0 winSLo, (via3 x).tv 0 winSHi, (viaDir x % 256).toNat⟩
/-- what Take answers: the name, the points, the diagnostic, whether there is one -/
structure TkO where
  nm : List UInt8
  pts : List Pt
  dl : Int
  dc : Int
  de : Int
  bad : Bool
def tkBad (s : Sc) : TkO := ⟨[], [], s.endL, s.endC, s.endE, true⟩
/-- the points of the records from place k on; done: those ahead -/
def ptsGo (nm : List UInt8) (l0 c0 : Int) (done : List Pt) : List Ln → TkO
  | [] => if chkA nm done = 0 then ⟨nm, done, 0, 0, 0, false⟩ else ⟨[], [], l0, c0, chkA nm done, true⟩
  | x :: r => if (viaS x r.isEmpty).endB then tkBad (viaS x r.isEmpty) else ptsGo nm l0 c0 (done ++ [viaP x r.isEmpty]) r
def takeO : List Ln → TkO
  | [] => ⟨[], [], 1, 1, 4, true⟩
  | x :: r => if (hd2 x).endB then tkBad (hd2 x) else ptsGo (hdNm x) x.1 (fld x.2 0).2 [] r
theorem ptsGo_step (nm : List UInt8) (l0 c0 : Int) (done : List Pt) {L : List Ln} {k : Nat} (h : k < L.length) :
    ptsGo nm l0 c0 done (L.drop k) = if (viaS L[k] (decide (L.length ≤ k + 1))).endB then tkBad (viaS L[k] (decide (L.length ≤ k + 1))) else ptsGo nm l0 c0 (done ++ [viaP L[k] (decide (L.length ≤ k + 1))]) (L.drop (k + 1)) := by
  rw [List.drop_eq_getElem_cons h]
  have e : (L.drop (k + 1)).isEmpty = decide (L.length ≤ k + 1) := by
    rw [Bool.eq_iff_iff, List.isEmpty_iff, List.drop_eq_nil_iff, decide_eq_true_iff]
  rw [← e]; rfl
theorem ptsGo_end (nm : List UInt8) (l0 c0 : Int) (done : List Pt) {L : List Ln} {k : Nat} (h : L.length ≤ k) :
    ptsGo nm l0 c0 done (L.drop k) = if chkA nm done = 0 then ⟨nm, done, 0, 0, 0, false⟩ else ⟨[], [], l0, c0, chkA nm done, true⟩ := by
  rw [List.drop_eq_nil_of_le h]; rfl
/-- records whose parts fit -/
def LnOk (x : Ln) : Prop := x.2.length ≤ 5864062014634 ∧ ∀ f ∈ x.2, f.1.length ≤ 140737488351232
/-- records in memory -/
def LnsR (w : World) (v : Value) (L : List Ln) : Prop :=
  ∃ A c, v = .slice A L.length c ∧ L.length ≤ c ∧ c ≤ maxLen ∧ (∀ x ∈ L, LnOk x) ∧ (0 < L.length → ∃ g o, A = some ⟨g, o, none⟩ ∧ g < w.heap.size ∧
    ∀ k (h : k < L.length), ∃ fv, w.cell? ⟨g, o + k * 2, none⟩ = some (.int .i64 L[k].1) ∧ w.cell? ⟨g, o + k * 2 + 1, none⟩ = some fv ∧ FsR w w.heap.size fv L[k].2)
theorem FsR.grow' {w w' : World} {v : Value} {fs : List FldI} (h : FsR w w.heap.size v fs) (hb : Below w.heap.size w w') : FsR w' w'.heap.size v fs :=
  (h.keep fun k hk => hb.block k hk).mono hb.size
theorem LnsR.below {w w' : World} {v : Value} {L : List Ln} (h : LnsR w v L) (hb : Below w.heap.size w w') : LnsR w' v L := by
  obtain ⟨A, c, hv, hc, hm, hk, hr⟩ := h
  refine ⟨A, c, hv, hc, hm, hk, fun h0 => ?_⟩
  obtain ⟨g, o, hA, hg, hx⟩ := hr h0
  refine ⟨g, o, hA, Nat.lt_of_lt_of_le hg hb.size, fun k hk => ?_⟩
  obtain ⟨fv, h1, h2, h3⟩ := hx k hk
  exact ⟨fv, (hb.cell (p := ⟨g, o + k * 2, none⟩) hg).trans h1, (hb.cell (p := ⟨g, o + k * 2 + 1, none⟩) hg).trans h2, h3.grow' hb⟩
theorem LnsR.form {w : World} {v : Value} {L : List Ln} (h : LnsR w v L) : ∃ A c, v = .slice A L.length c ∧ L.length ≤ c ∧ c ≤ maxLen := by
  obtain ⟨A, c, hv, hc, hm, _⟩ := h; exact ⟨A, c, hv, hc, hm⟩
theorem LnsR.at_ {w : World} {v : Value} {L : List Ln} (h : LnsR w v L) {k : Nat} (hk : k < L.length) :
    ∃ g o c fv, v = .slice (some ⟨g, o, none⟩) L.length c ∧ g < w.heap.size ∧ w.cell? ⟨g, o + k * 2, none⟩ = some (.int .i64 L[k].1) ∧ w.cell? ⟨g, o + k * 2 + 1, none⟩ = some fv ∧ FsR w w.heap.size fv L[k].2 ∧ LnOk L[k] := by
  obtain ⟨A, c, hv, hc, hm, hok, hr⟩ := h
  obtain ⟨g, o, rfl, hg, hx⟩ := hr (by omega)
  obtain ⟨fv, h1, h2, h3⟩ := hx k hk
  exact ⟨g, o, c, fv, hv, hg, h1, h2, h3, hok _ (List.getElem_mem hk)⟩
theorem LnOk.text {s : Sc} (h : ∀ f ∈ s.fs, f.1.length ≤ 140737488351232) : s.text.length ≤ 140737488351232 := by
  unfold Sc.text
  split
  · unfold fld
    rcases Nat.lt_or_ge s.nx s.fs.length with h1 | h1
    · rw [List.getD_eq_getElem?_getD, List.getElem?_eq_getElem h1]
      simp only [Option.getD_some]; exact h _ (List.getElem_mem h1)
    · rw [List.getD_eq_getElem?_getD, List.getElem?_eq_none h1]; simp
  · simp
theorem tk_fsT (s : Sc) (er : List UInt8 → Int) : (s.tk er).fs = s.fs := by
  unfold Sc.tk; split
  · rw [Sc.note_fs, Sc.take_fs]
  · rw [Sc.take_fs]
theorem via1_fs (x : Ln) : (via1 x).fs = x.2 := by unfold via1; rw [tk_fsT]; rfl
theorem via2_fs (x : Ln) : (via2 x).fs = x.2 := by unfold via2; rw [Sc.take_fs, via1_fs]
theorem via3_fs (x : Ln) : (via3 x).fs = x.2 := by unfold via3; split
                                                   · exact via2_fs x
                                                   · rw [Sc.note_fs, via2_fs]
theorem hd1_fs (x : Ln) : (hd1 x).fs = x.2 := by unfold hd1; rw [tk_fsT]; rfl


theorem infoPt : (Tryz.prog.info? 53).map (fun i => (i.zero, i.size, i.bytes)) = some (some (.agg #[.string ⟨#[]⟩, .int .i64 0, .int .i64 0, .int .u8 0]), 4, 40) := by kernel_rfl
/-- the world behind the airway's box -/
def BoxQ (w : World) (nm : ByteArray) (v : Value) (w1 : World) : Prop := Below (w.heap.size + 1) (w.alloc (.cells #[.string nm, v] 48)) w1
section
variable {w w1 w2 : World} {nm : ByteArray} {v : Value} {l : List Pt}
theorem BoxQ.below (h : BoxQ w nm v w1) : Below w.heap.size w w1 := ((Below.refl w.heap.size w).alloc (Nat.le_refl _) _).trans (Below.mono h (by omega))
theorem BoxQ.size (h : BoxQ w nm v w1) : w.heap.size < w1.heap.size := by have := Below.size h; simp at this; omega
theorem BoxQ.pts (h : BoxQ w nm v w1) (hp : Hid (PtsR w v l)) : PtsR w1 v l := hp.out.below h.below
theorem BoxQ.c0 (h : BoxQ w nm v w1) : w1.cell? ⟨w.heap.size, 0, none⟩ = some (.string nm) := (Below.cell h (p := ⟨w.heap.size, 0, none⟩) (by simp)).trans (by simp [go_sem])
theorem BoxQ.c1 (h : BoxQ w nm v w1) : w1.cell? ⟨w.heap.size, 1, none⟩ = some v := (Below.cell h (p := ⟨w.heap.size, 1, none⟩) (by simp)).trans (by simp [go_sem])
theorem BoxQ.then_ (h : BoxQ w nm v w1) (hb : Below w1.heap.size w1 w2) : BoxQ w nm v w2 := Below.trans h (hb.mono h.size)
theorem BoxQ.drew (h : BoxQ w nm v w1) : BoxQ w nm v w1.drew := h.then_ (Below.refl _ _).drew
theorem BoxQ.drewN (h : BoxQ w nm v w1) (k : Nat) : BoxQ w nm v (w1.drewN k) := h.then_ (below_drewN' (Below.refl _ _) k)
end

end Go.Proofs.YtgmehlgfilpleaaGreatDoor
namespace Go.Proofs.YtgmehlgfilpleaaGreatDoor
set_option linter.unusedVariables false
set_option linter.unusedSimpArgs false

/-! ### lines of words -/
def joinW (W : List (List (List UInt8))) : List UInt8 := W.flatMap fun ws => unW ws ++ [10]
def numW (n : Nat) : List (List (List UInt8)) → List Rec
  | [] => []
  | ws :: W => (n, colsW 0 ws) :: numW (n + 1) W
/-- words of a line -/
structure WsOk (ws : List (List UInt8)) : Prop where
  ne : ws ≠ []
  tok : ∀ w ∈ ws, w ≠ [] ∧ w.all tokB = true
  len : (unW ws).length ≤ 200
theorem WsOk.no10 {ws : List (List UInt8)} (h : WsOk ws) : (10 : UInt8) ∉ unW ws := fun hm => by
  have := List.all_eq_true.1 (unW_ok ws h.tok).1 10 hm
  exact absurd this (by decide)
theorem linesL_joinW : ∀ (W : List (List (List UInt8))), (∀ ws ∈ W, WsOk ws) → linesL (joinW W) = W.map unW ++ [[]]
  | [], _ => rfl
  | ws :: W, h => by
    have e : joinW (ws :: W) = unW ws ++ 10 :: joinW W := by
      unfold joinW; rw [List.flatMap_cons, List.append_assoc]; rfl
    rw [e, linesL_cut, cutAt_mid (h ws (by simp)).no10, if_pos rfl, linesL_joinW W (fun x hx => h x (List.mem_cons_of_mem _ hx))]
    rfl
theorem recs_joinW : ∀ (W : List (List (List UInt8))) (n : Nat), (∀ ws ∈ W, WsOk ws) → recsL n (W.map unW ++ [[]]) = numW n W ∧ dgsL n (W.map unW ++ [[]]) = []
  | [], n, _ => ⟨rfl, rfl⟩
  | ws :: W, n, h => by
    have hw := h ws (by simp)
    have hs := split_unW hw.tok hw.len
    obtain ⟨i1, i2⟩ := recs_joinW W (n + 1) (fun x hx => h x (List.mem_cons_of_mem _ hx))
    have hr : isRec (unW ws) = true := by
      unfold isRec
      rw [hs.1, hs.2]
      have : (colsW 0 ws).isEmpty = false := by
        rw [List.isEmpty_eq_false_iff]
        intro e
        have := congrArg List.length e
        rw [colsW_len] at this
        exact hw.ne (List.eq_nil_of_length_eq_zero (by simpa using this))
      rw [this]; rfl
    constructor
    · show (if isRec (unW ws) then (n, splitF (unW ws)) :: recsL (n + 1) (W.map unW ++ [[]]) else _) = _
      rw [if_pos hr, hs.2, i1]; rfl
    · show (if splitErr (unW ws) == 0 then dgsL (n + 1) (W.map unW ++ [[]]) else _) = _
      rw [hs.1, if_pos (by decide)]; exact i2
theorem joinW_len : ∀ (W : List (List (List UInt8))), (∀ ws ∈ W, WsOk ws) → (joinW W).length ≤ W.length * 201
  | [], _ => Nat.zero_le _
  | ws :: W, h => by
    have := joinW_len W (fun x hx => h x (List.mem_cons_of_mem _ hx))
    have h2 := (h ws (by simp)).len
    unfold joinW at this ⊢
    rw [List.flatMap_cons, List.length_append, List.length_append, List.length_cons, List.length_cons]
    simp only [List.length_nil]
    omega
/-- lines of words are read as records of them -/
theorem read_joinW {W : List (List (List UInt8))} (h : ∀ ws ∈ W, WsOk ws) (hl : W.length ≤ 1000) : readRecs (joinW W) = numW 1 W ∧ readDgs (joinW W) = [] := by
  have h1 := joinW_len W h
  have h2 := recs_joinW W 1 h
  unfold readRecs readDgs
  rw [if_neg (by omega), if_neg (by omega), linesL_joinW W h, h2.1, h2.2]
  exact ⟨rfl, rfl⟩
/-- a record as a scanner takes it -/
def lnOf (r : Rec) : Ln := ((r.1 : Int), fldI r.2)
/-! ### the lines of an airway -/
/-! ### the words of an airway's lines are words -/
/-! ### what is taken of the lines -/
/-! ### what Parse answers -/
/-! ### records that were read, as a scanner takes them -/
theorem recs_small : ∀ (ls : List (List UInt8)) (n : Nat), ∀ r ∈ recsL n ls, (∀ f ∈ r.2, f.1.length ≤ 200) ∧ r.2.length ≤ 201
  | [], n, r, h => by cases h
  | l :: ls, n, r, h => by
    have h2 : r ∈ (if isRec l then (n, splitF l) :: recsL (n + 1) ls else recsL (n + 1) ls) := h
    split at h2
    · rcases List.mem_cons.1 h2 with rfl | h2
      · exact splitF_small l
      · exact recs_small ls (n + 1) r h2
    · exact recs_small ls (n + 1) r h2
theorem readRecs_small (s : List UInt8) : (∀ r ∈ readRecs s, (∀ f ∈ r.2, f.1.length ≤ 200) ∧ r.2.length ≤ 201) ∧ (readRecs s).length ≤ 262145 := by
  unfold readRecs
  split
  · exact ⟨by simp, by simp⟩
  · have h1 := recsL_len (linesL s) 1
    have h2 := linesL_len s
    exact ⟨recs_small _ _, by omega⟩
theorem lns_of {w : World} {v : Value} {rs : List Rec} (h : RecsR w v rs) (hs : ∀ r ∈ rs, (∀ f ∈ r.2, f.1.length ≤ 200) ∧ r.2.length ≤ 201) : LnsR w v (rs.map lnOf) := by
  obtain ⟨L, hL, ⟨⟨hl, A, c, hv, hc, hm, hr⟩, _⟩, hF⟩ := h
  have hlen : (rs.map lnOf).length = rs.length := List.length_map _
  have hLl : L.length = rs.length := by rw [← hL, List.length_map]
  refine ⟨A, c, by rw [hlen]; exact hv, by rw [hlen]; exact hc, hm, ?_, fun h0 => ?_⟩
  · intro x hx
    rw [List.mem_map] at hx
    obtain ⟨r, hr, rfl⟩ := hx
    have := hs r hr
    refine ⟨by show (fldI r.2).length ≤ _; rw [fldI_len]; omega, fldI_small this.1 (by omega)⟩
  · rw [hlen] at h0
    obtain ⟨g, o, hA, hg, hx⟩ := hr h0
    refine ⟨g, o, hA, hg, fun k hk => ?_⟩
    rw [hlen] at hk
    have hkL : k < L.length := by omega
    have hrk : L[k].1 = rs[k] := by
      have : (L.map (·.1))[k]? = rs[k]? := by rw [hL]
      rw [List.getElem?_map, List.getElem?_eq_getElem hkL, List.getElem?_eq_getElem hk] at this
      simpa using this
    have hk2 : ∀ c ∈ L.map (fun x => [Value.int .i64 (x.1.1 : Int), x.2]), c.length = 2 := by
      intro c hc; rw [List.mem_map] at hc; obtain ⟨p, _, rfl⟩ := hc; rfl
    have e : rcells L = (L.map fun x => [Value.int .i64 (x.1.1 : Int), x.2]).flatten := by unfold rcells; rw [List.flatMap_def]
    have f0 := flat_at _ hk2 k 0 (by rw [List.length_map]; exact hkL) (by decide)
    have f1 := flat_at _ hk2 k 1 (by rw [List.length_map]; exact hkL) (by decide)
    rw [← e, List.getElem_map] at f0 f1
    have c0 := hx _ _ f0
    have c1 := hx _ _ f1
    rw [Nat.add_zero] at c0
    rw [← Nat.add_assoc] at c1
    rw [hrk] at c0
    refine ⟨L[k].2, ?_, c1, ?_⟩
    · rw [List.getElem_map]; exact c0
    · rw [List.getElem_map]
      have hf := hF _ (List.getElem_mem hkL)
      rw [hrk] at hf
      exact fsr_of hf (hs _ (List.getElem_mem hk)).1
end Go.Proofs.YtgmehlgfilpleaaGreatDoor
