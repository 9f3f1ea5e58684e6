/-
  Contracts: the points between two points of an airway, on both sides.
-/
import Derived.Test.YtgnnblkpjankgaaGreatDoorAwCom
import Derived.Deep.AppendLies
import Derived.Deep.RegionHeld3
namespace Go.Proofs.YtgnnblkpjankgaaGreatDoor
open Go.RowKit
set_option linter.unusedVariables false
set_option linter.unusedSimpArgs false

def noPt : Pt := ⟨[], 0, 0, 0⟩
/-- the points on the way from place i to place j, so many steps; none: a segment is closed -/
def expGo (l : List Pt) (j : Nat) : Nat → Nat → List Pt → Option (List Pt)
  | 0, _, out => some out
  | f + 1, i, out =>
    if i < j then
      (if (l.getD i noPt).dir = 2 then none else expGo l j f (i + 1) (out ++ [⟨(l.getD (i + 1) noPt).ref, (l.getD i noPt).lo, (l.getD i noPt).hi, 0⟩]))
    else
      (if (l.getD (i - 1) noPt).dir = 1 then none else expGo l j f (i - 1) (out ++ [⟨(l.getD (i - 1) noPt).ref, (l.getD (i - 1) noPt).lo, (l.getD (i - 1) noPt).hi, 0⟩]))
def expRes (l : List Pt) (i j : Nat) : Option (List Pt) := expGo l j (i - j + (j - i)) i []
def expR (o : Option (List Pt)) : List Pt × Int := match o with | some o => (o, 0) | none => ([], 9)
def expOut (nm : List UInt8) (l : List Pt) (f t : List UInt8) : List Pt × Int :=
  if chkA nm l = 0 then
    if idxOf l f < 0 ∨ idxOf l t < 0 then ([], 6) else if idxOf l f = idxOf l t then ([], 1)
    else expR (expRes l (idxOf l f).toNat (idxOf l t).toNat)
  else ([], chkA nm l)
theorem idxFrom_ge (r : List UInt8) : ∀ (l : List Pt) (n : Nat), idxFrom r n l = -1 ∨ ((n : Int) ≤ idxFrom r n l ∧ idxFrom r n l < n + l.length)
  | [], n => .inl rfl
  | p :: l, n => by
    unfold idxFrom
    split
    · right; simp only [List.length_cons]; omega
    · rcases idxFrom_ge r l (n + 1) with h | h
      · exact .inl h
      · right; simp only [List.length_cons]; omega
theorem idxOf_bd (l : List Pt) (r : List UInt8) : idxOf l r < 0 ∨ ∃ k : Nat, idxOf l r = k ∧ k < l.length := by
  rcases idxFrom_ge r l 0 with h | h
  · left; unfold idxOf; omega
  · right; exact ⟨(idxOf l r).toNat, by unfold idxOf; omega, by unfold idxOf; omega⟩
def ExpPost (nm : List UInt8) (l : List Pt) (f t : List UInt8) (w : World) (e : Ending) (w' : World) : Prop :=
  ∃ v, e = .returned (.tuple #[v, .int .i64 (expOut nm l f t).2]) ∧ PtsR w' v (expOut nm l f t).1 ∧ Below w.heap.size w w'
theorem ptsR_nil (w : World) : PtsR w (.slice none 0 0) [] := ⟨Rd.nil w 4, fun p h => by cases h⟩
theorem expPost {nm : List UInt8} {l : List Pt} {f t : List UInt8} {w w' : World} {v : Value} {er : Int} {o : List Pt} (h : expOut nm l f t = (o, er)) (hv : PtsR w' v o) (hb : Below w.heap.size w w') : ExpPost nm l f t w (.returned (.tuple #[v, .int .i64 er])) w' :=
  ⟨v, by rw [h], by rw [h]; exact hv, hb⟩
theorem chk_small {nm : List UInt8} {l : List Pt} (h : chkA nm l = 0) : l.length ≤ 40 := by
  unfold chkA at h
  split at h
  · split at h
    · cases h
    · split at h
      · cases h
      · omega
  · cases h
theorem exp_fwd {l : List Pt} {j f i : Nat} {out : List Pt} (h : i < j) (h1 : i < l.length) (h2 : i + 1 < l.length) : expGo l j (f + 1) i out = if l[i].dir = 2 then none else expGo l j f (i + 1) (out ++ [⟨l[i + 1].ref, l[i].lo, l[i].hi, 0⟩]) := by
  rw [expGo, if_pos h, List.getD_eq_getElem?_getD, List.getD_eq_getElem?_getD, List.getElem?_eq_getElem h1, List.getElem?_eq_getElem h2]; rfl
theorem exp_back {l : List Pt} {j f i : Nat} {out : List Pt} (h : ¬ i < j) (h1 : i - 1 < l.length) : expGo l j (f + 1) i out = if l[i - 1].dir = 1 then none else expGo l j f (i - 1) (out ++ [⟨l[i - 1].ref, l[i - 1].lo, l[i - 1].hi, 0⟩]) := by
  rw [expGo, if_neg h, List.getD_eq_getElem?_getD, List.getElem?_eq_getElem h1]; rfl
theorem infoPt : (Tryz.prog.info? 68).map (fun i => (i.zero, i.size, i.bytes)) = some (some (.agg #[.string ⟨#[]⟩, .int .i64 0, .int .i64 0, .int .u8 0]), 4, 40) := by kernel_rfl
def PtOk (p : Pt) : Prop := p.ref.length ≤ maxLen ∧ p.dir < 256
/-- the world behind the airway's box -/
def BoxQ (w : World) (nm : ByteArray) (v : Value) (w1 : World) : Prop := Below (w.heap.size + 1) (w.alloc (.cells #[.string nm, v] 63)) w1
section
variable {w w1 w2 : World} {nm : ByteArray} {v : Value} {l : List Pt}
theorem BoxQ.below (h : BoxQ w nm v w1) : Below w.heap.size w w1 := ((Below.refl w.heap.size w).alloc (Nat.le_refl _) _).trans (Below.mono h (by omega))
theorem BoxQ.size (h : BoxQ w nm v w1) : w.heap.size < w1.heap.size := by have := Below.size h; simp at this; omega
theorem BoxQ.pts (h : BoxQ w nm v w1) (hp : Hid (PtsR w v l)) : PtsR w1 v l := hp.out.below h.below
theorem BoxQ.c0 (h : BoxQ w nm v w1) : w1.cell? ⟨w.heap.size, 0, none⟩ = some (.string nm) := (Below.cell h (p := ⟨w.heap.size, 0, none⟩) (by simp)).trans (by simp [go_sem])
theorem BoxQ.c1 (h : BoxQ w nm v w1) : w1.cell? ⟨w.heap.size, 1, none⟩ = some v := (Below.cell h (p := ⟨w.heap.size, 1, none⟩) (by simp)).trans (by simp [go_sem])
theorem BoxQ.then_ (h : BoxQ w nm v w1) (hb : Below w1.heap.size w1 w2) : BoxQ w nm v w2 := Below.trans h (hb.mono h.size)
theorem BoxQ.drew (h : BoxQ w nm v w1) : BoxQ w nm v w1.drew := h.then_ (Below.refl _ _).drew
theorem BoxQ.drewN (h : BoxQ w nm v w1) (k : Nat) : BoxQ w nm v (w1.drewN k) := h.then_ (below_drewN' (Below.refl _ _) k)
end
set_option maxRecDepth 100000 in
set_option maxHeartbeats 4000000 in
theorem expand_any (nm f t : ByteArray) (v : Value) (l : List Pt) (w : World) (h : PtsR w v l) (hnm : nm.size ≤ maxLen) :
    Calls Tryz.prog 17 #[.agg #[.string nm, v], .string f, .string t] w (ExpPost (bl nm) l (bl f) (bl t) w) := by
  obtain ⟨A, c, rfl, hc, hm⟩ := h.form
  unfold maxLen at hm
  have H := Lib.hid h
  clear h
  obtain ⟨n, hnn⟩ : ∃ n, l.length = n := ⟨_, rfl⟩
  rw [hnn] at hc H
  rw [hnn]
  have HN := Lib.hid hnn
  clear hnn
  obtain ⟨r, hr⟩ : ∃ r, expOut (bl nm) l (bl f) (bl t) = r := ⟨_, rfl⟩
  have HR := Lib.hid hr
  have hpost : ∀ (er : Int) (o : List Pt) (v' : Value) (w' : World), r = (o, er) → PtsR w' v' o → Below w.heap.size w w' → ExpPost (bl nm) l (bl f) (bl t) w (.returned (.tuple #[v', .int .i64 er])) w' := fun er o v' w' h1 h2 h3 => expPost (hr.trans h1) h2 h3
  have HPOST := Lib.hid hpost
  clear hr hpost
  have Q0 : Hid (BoxQ w nm (.slice A n c) (w.alloc (.cells #[.string nm, .slice A n c] 63))) := Below.refl _ _
  go_enter Tryz.func17, Tryz.ntmps17
  go_wp2_with fail
  refine (check_any nm _ l _ (Q0.out.pts H) hnm).mono ?_
  rintro e1 w1 ⟨rfl, hb1⟩
  have Q1 := Lib.hid (Q0.out.then_ hb1)
  have b0 := Q1.out.c0
  have b1 := Q1.out.c1
  have bs := Q1.out.size
  clear hb1
  obtain ⟨ch, hch⟩ : ∃ ch, chkA (bl nm) l = ch := ⟨_, rfl⟩
  rw [hch]
  have HC := Lib.hid hch
  clear hch
  by_cases h0 : ch = 0
  · have e1 : (ch != 0) = false := by rw [h0]; rfl
    have H0 := Lib.hid h0
    clear h0
    go_upto_region 4 with (fail)
    go_cut [9, 10] (fun a b wx => a = .int .i64 (idxOf l (bl f)) ∧ b = .int .i64 (idxOf l (bl t)) ∧ Hid (BoxQ w nm (.slice A n c) wx))
    case first =>
      first
        | go_region_with (go_at_call 49; refine (index_any _ _ _ l _ (by first | exact (Q1.out.drew).pts H | exact Q1.out.pts H | exact (Q1.out.drewN _).pts H)).mono ?_; rintro e w2 ⟨rfl, hbq⟩; have Q1 := Lib.hid (by first | exact Q1.out.drew.then_ hbq | exact Q1.out.then_ hbq | exact (Q1.out.drewN _).then_ hbq : BoxQ w nm (.slice A n c) w2); have b0 := Q1.out.c0; have b1 := Q1.out.c1; have bs := Q1.out.size; clear hbq)
        | fail
      all_goals
        go_wp2
        go_meet
        exact ⟨rfl, rfl, Q1⟩
    case rest =>
      obtain ⟨rfl, rfl, hbx⟩ := hcut
      have Q2 := hbx
      have b0 := Q2.out.c0
      have b1 := Q2.out.c1
      have bs := Q2.out.size
      have hF := idxOf_bd l (bl f)
      have hT := idxOf_bd l (bl t)
      obtain ⟨x, hx⟩ : ∃ x, idxOf l (bl f) = x := ⟨_, rfl⟩
      obtain ⟨y, hy⟩ : ∃ y, idxOf l (bl t) = y := ⟨_, rfl⟩
      have HX : Hid (r = (if x < 0 ∨ y < 0 then ([], 6) else if x = y then ([], 1) else expR (expRes l x.toNat y.toNat))) := by
        unfold Hid; rw [← HR.out]; unfold expOut; rw [if_pos (by rw [HC.out]; exact H0.out), hx, hy]
      rw [hx] at hF ⊢
      rw [hy] at hT ⊢
      clear hx hy hbx Q1
      rcases hF with hF | ⟨i0, rfl, hi0⟩
      · go_wp2
        go_ret2
        exact HPOST.out _ _ _ _ (by rw [HX.out, if_pos (.inl hF)]) (ptsR_nil _) Q2.out.below
      rcases hT with hT | ⟨j, rfl, hj⟩
      · go_wp2
        go_ret2
        exact HPOST.out _ _ _ _ (by rw [HX.out, if_pos (.inr hT)]) (ptsR_nil _) Q2.out.below
      have HN40 := Lib.hid (chk_small (HC.out.trans H0.out))
      by_cases hij : i0 = j
      · subst hij
        go_wp2
        go_ret2
        exact HPOST.out _ _ _ _ (by rw [HX.out, if_neg (by omega)]; simp) (ptsR_nil _) Q2.out.below
      have HX2 : Hid (r = expR (expGo l j (i0 - j + (j - i0)) i0 [])) := by
        unfold Hid; rw [HX.out, if_neg (by omega), if_neg (by omega)]; rfl
      have hne : ((i0 : Int) == (j : Int)) = false := beq_eq_false_iff_ne.2 (by omega)
      obtain ⟨ip, hip, hz0, hz1, hz2⟩ := info_parts infoPt
      clear HX hij
      go_wp2
      go_loopw [9, 11] (fun iv ov wr => ∃ (i k : Nat) (out : List Pt), i < l.length ∧ iv = .int .i64 i ∧ k = (i - j) + (j - i) ∧ wr.ownsRow (w.heap.size + 1) 68 4 ov out.length (ptcells out) ∧ out.length + k ≤ 40 ∧ Hid (BoxQ w nm (.slice A n c) wr) ∧ Hid (∀ p ∈ out, PtOk p) ∧ Hid (r = expR (expGo l j k i out))) (fun iv _ _ => ((intOf iv).toNat - j) + (j - (intOf iv).toNat))
      case atStart => exact ⟨i0, _, [], hi0, rfl, rfl, World.ownsRow_nil _ _ _ _, by have := HN40.out; simp; omega, Q2, (fun p h => by cases h), HX2.out⟩
      case round =>
        obtain ⟨i, k, out, hi, rfl, hk, hown, hol, Q3, hok, hgo⟩ := hrel
        have HK := Lib.hid hk
        have b0 := Q3.out.c0
        have b1 := Q3.out.c1
        have bs := Q3.out.size
        rcases Nat.lt_trichotomy i j with hlt | heq | hgt
        · obtain ⟨k, rfl⟩ : ∃ k', k = k' + 1 := ⟨k - 1, by omega⟩
          clear hk
          have hn1 : i + 1 < l.length := by omega
          have hgo2 := hgo.out
          rw [exp_fwd hlt hi hn1] at hgo2
          obtain ⟨g, o, cx, hA, hg, x0, x1, x2, x3⟩ := H.out.at_ hi
          obtain ⟨g', o', cx', hA', hg', z0, z1, z2, z3⟩ := H.out.at_ hn1
          rw [HN.out] at hA hA'
          simp only [Value.slice.injEq, true_and] at hA hA'
          obtain ⟨rfl, rfl⟩ := hA
          obtain ⟨hA', rfl⟩ := hA'
          simp only [Option.some.injEq, Addr.mk.injEq, and_true] at hA'
          obtain ⟨rfl, rfl⟩ := hA'
          have hbw := Q3.out.below
          have y1 := (hbw.cell (p := ⟨g, o + i * 4 + 1, none⟩) hg).trans x1
          have y2 := (hbw.cell (p := ⟨g, o + i * 4 + 2, none⟩) hg).trans x2
          have y3 := (hbw.cell (p := ⟨g, o + i * 4 + 3, none⟩) hg).trans x3
          have y4 := (hbw.cell (p := ⟨g, o + (i + 1) * 4, none⟩) hg).trans z0
          have hpo := H.out.2 _ (List.getElem_mem hn1)
          obtain ⟨p, hp⟩ : ∃ p, l[i] = p := ⟨_, rfl⟩
          obtain ⟨q, hq⟩ : ∃ q, l[i + 1] = q := ⟨_, rfl⟩
          rw [hp] at y1 y2 y3 hgo2
          rw [hq] at y4 hgo2 hpo
          have HGO := Lib.hid hgo2
          clear hgo hgo2 x0 x1 x2 x3 z0 z1 z2 z3 hp hq hbw
          have hii : (i : Int) < (n : Int) := by have := HN.out; omega
          have hii2 : (i : Int) + 1 < (n : Int) := by have := HN.out; omega
          have hij1 : (i : Int) < (j : Int) := by omega
          have hij2 : ((i : Int) == (j : Int)) = false := beq_eq_false_iff_ne.2 (by omega)
          by_cases hd : p.dir = 2
          · have e2 : ((p.dir : Int) == 2) = true := beq_iff_eq.2 (by omega)
            have HD := Lib.hid hd
            clear hd
            go_wp2
            go_ret2
            exact HPOST.out _ _ _ _ (by rw [HGO.out, if_pos HD.out]; rfl) (ptsR_nil _) Q3.out.below
          · have e2 : ((p.dir : Int) == 2) = false := beq_eq_false_iff_ne.2 (by omega)
            have HD := Lib.hid hd
            clear hd
            have hlt1 : ∀ k, u11.ownBlock = some k → w.heap.size + 1 ≤ k := fun k hk => (hown.lt k hk).1
            have ne0 : u11.ownBlock ≠ some w.heap.size := fun h => by have := hlt1 _ h; omega
            have ne1 : u11.ownBlock ≠ some g := fun h => by have := hlt1 _ h; omega
            have lg : g < wr.heap.size := by omega
            have HL1 := Lib.hid hlt1
            rw [if_neg HD.out] at HGO
            clear hlt1
            go_wp2
            have hs0 : (0 : Int) ≤ (i : Int) + 1 := by omega
            have hs1 : (0 : Int) ≤ (i : Int) := by omega
            have hs2 : ((i : Int) + 1).toNat = i + 1 := by omega
            go_region_held3 (fun wx => wx.cell? ⟨w.heap.size, 1, none⟩ = some (.slice (some ⟨g, o, none⟩) n c) ∧ wx.cell? ⟨g, o + (i + 1) * 4, none⟩ = some (.string (sb q.ref)) ∧ wx.cell? ⟨g, o + i * 4 + 1, none⟩ = some (.int .i64 p.lo) ∧ wx.cell? ⟨g, o + i * 4 + 2, none⟩ = some (.int .i64 p.hi))
              (first
                | go_keep
                | (go_split_ands
                   refine ⟨?_, ?_, ?_, ?_⟩
                   · (rw [hgrow.cell_far _ (by simp; omega) (Ne.symm ne0)]; assumption)
                   · (rw [hgrow.cell_far _ (by simp; omega) (Ne.symm ne1)]; assumption)
                   · (rw [hgrow.cell_far _ (by simp; omega) (Ne.symm ne1)]; assumption)
                   · (rw [hgrow.cell_far _ (by simp; omega) (Ne.symm ne1)]; assumption)))
              ((refine step_append_lies _ (by rfl) _ _ _ (by rfl) (w.heap.size + 1) 68 ip (.agg #[.string ⟨#[]⟩, .int .i64 0, .int .i64 0, .int .u8 0]) 4 40 Tryz.underlying61 hip hz0 hz1 hz2 rfl (by omega) u11 out.length (ptcells out) (by rfl) ((hown.alloc _).drew) ⟨wr.heap.size, 0, none⟩ 1 1 [.string (sb q.ref), .int .i64 p.lo, .int .i64 p.hi, .int .u8 0] (by rfl) (by rfl) (World.news_of_block (cs := #[.string (sb q.ref), .int .i64 p.lo, .int .i64 p.hi, .int .u8 0]) (t := 68) (fr := (0, 0)) (heap_alloc_new wr _)) (by simp [Value.oneCell']) (by omega) (by unfold maxLen; omega) (by omega) (by simp; omega) (wr.heap.size + 1) (by simp) ?_; intro gg cap w3 hown3 hgrow hat hlt3))
            have Q4 : Hid (BoxQ w nm (.slice (some ⟨g, o, none⟩) n c) w3) := ((Below.alloc Q3.out (by omega) _).drew).grown hgrow (by simp; omega) HL1.out
            have HO : Hid (w3.ownsRow (w.heap.size + 1) 68 4 (.slice (some ⟨gg, 0, none⟩) (out.length + 1) cap) (out ++ [(⟨q.ref, p.lo, p.hi, 0⟩ : Pt)]).length (ptcells (out ++ [(⟨q.ref, p.lo, p.hi, 0⟩ : Pt)]))) := by
              unfold Hid
              rw [ptcells_snoc, List.length_append]
              exact hown3
            have HOK : Hid (∀ x ∈ out ++ [(⟨q.ref, p.lo, p.hi, 0⟩ : Pt)], PtOk x) := by
              intro x hx
              rw [List.mem_append, List.mem_singleton] at hx
              rcases hx with hx | rfl
              · exact hok.out x hx
              · exact ⟨hpo.1, by show (0 : Nat) < 256; decide⟩
            clear hown hown3 hgrow hat
            go_wp2
            go_roundw
            case rel => exact ⟨i + 1, k, _, hn1, by go_num, by have := HK.out; omega, HO.out, by simp; omega, Q4, HOK, HGO.out⟩
            case measure => simp [intOf]; omega
        · subst heq
          obtain rfl : k = 0 := by omega
          clear hk hne hol
          have hrd := Lib.hid (Rd.of_own hown)
          clear hown
          go_wp2
          go_ret2
          exact HPOST.out _ _ _ _ (by rw [hgo.out]; rfl) ⟨hrd.out, hok.out⟩ Q3.out.below
        · obtain ⟨k, rfl⟩ : ∃ k', k = k' + 1 := ⟨k - 1, by omega⟩
          clear hk
          have hn1 : i - 1 < l.length := by omega
          have hgo2 := hgo.out
          rw [exp_back (by omega) hn1] at hgo2
          obtain ⟨g, o, cx, hA, hg, x0, x1, x2, x3⟩ := H.out.at_ hn1
          rw [HN.out] at hA
          simp only [Value.slice.injEq, true_and] at hA
          obtain ⟨rfl, rfl⟩ := hA
          have hbw := Q3.out.below
          have y1 := (hbw.cell (p := ⟨g, o + (i - 1) * 4 + 1, none⟩) hg).trans x1
          have y2 := (hbw.cell (p := ⟨g, o + (i - 1) * 4 + 2, none⟩) hg).trans x2
          have y3 := (hbw.cell (p := ⟨g, o + (i - 1) * 4 + 3, none⟩) hg).trans x3
          have y4 := (hbw.cell (p := ⟨g, o + (i - 1) * 4, none⟩) hg).trans x0
          have hpo := H.out.2 _ (List.getElem_mem hn1)
          obtain ⟨p, hp⟩ : ∃ p, l[i - 1] = p := ⟨_, rfl⟩
          rw [hp] at y1 y2 y3 y4 hgo2 hpo
          have HGO := Lib.hid hgo2
          clear hgo hgo2 x0 x1 x2 x3 hp hbw
          have hii : (i : Int) < (n : Int) := by have := HN.out; omega
          have hii2 : (i : Int) - 1 < (n : Int) := by have := HN.out; omega
          have hii3 : (0 : Int) ≤ (i : Int) - 1 := by omega
          have hij1 : (j : Int) < (i : Int) := by omega
          have hij2 : ((i : Int) == (j : Int)) = false := beq_eq_false_iff_ne.2 (by omega)
          by_cases hd : p.dir = 1
          · have e2 : ((p.dir : Int) == 1) = true := beq_iff_eq.2 (by omega)
            have HD := Lib.hid hd
            clear hd
            go_wp2
            go_ret2
            exact HPOST.out _ _ _ _ (by rw [HGO.out, if_pos HD.out]; rfl) (ptsR_nil _) Q3.out.below
          · have e2 : ((p.dir : Int) == 1) = false := beq_eq_false_iff_ne.2 (by omega)
            have HD := Lib.hid hd
            clear hd
            have hlt1 : ∀ k, u11.ownBlock = some k → w.heap.size + 1 ≤ k := fun k hk => (hown.lt k hk).1
            have ne0 : u11.ownBlock ≠ some w.heap.size := fun h => by have := hlt1 _ h; omega
            have ne1 : u11.ownBlock ≠ some g := fun h => by have := hlt1 _ h; omega
            have lg : g < wr.heap.size := by omega
            have HL1 := Lib.hid hlt1
            rw [if_neg HD.out] at HGO
            clear hlt1
            go_wp2
            have hs0 : (0 : Int) ≤ (i : Int) - 1 := by omega
            have hs1 : (0 : Int) ≤ (i : Int) := by omega
            have hs3 : (1 : Int) ≤ (i : Int) := by omega
            have hs4 : (i : Int) < (n : Int) + 1 := by omega
            have hs5 : (i : Int) ≤ (n : Int) := by omega
            have hs6 : 1 ≤ i := by omega
            have hs2 : ((i : Int) - 1).toNat = i - 1 := by omega
            go_region_held3 (fun wx => wx.cell? ⟨w.heap.size, 1, none⟩ = some (.slice (some ⟨g, o, none⟩) n c) ∧ wx.cell? ⟨g, o + (i - 1) * 4, none⟩ = some (.string (sb p.ref)) ∧ wx.cell? ⟨g, o + (i - 1) * 4 + 1, none⟩ = some (.int .i64 p.lo) ∧ wx.cell? ⟨g, o + (i - 1) * 4 + 2, none⟩ = some (.int .i64 p.hi))
              (first
                | go_keep
                | (go_split_ands
                   refine ⟨?_, ?_, ?_, ?_⟩
                   · (rw [hgrow.cell_far _ (by simp; omega) (Ne.symm ne0)]; assumption)
                   · (rw [hgrow.cell_far _ (by simp; omega) (Ne.symm ne1)]; assumption)
                   · (rw [hgrow.cell_far _ (by simp; omega) (Ne.symm ne1)]; assumption)
                   · (rw [hgrow.cell_far _ (by simp; omega) (Ne.symm ne1)]; assumption)))
              ((refine step_append_lies _ (by rfl) _ _ _ (by rfl) (w.heap.size + 1) 68 ip (.agg #[.string ⟨#[]⟩, .int .i64 0, .int .i64 0, .int .u8 0]) 4 40 Tryz.underlying61 hip hz0 hz1 hz2 rfl (by omega) u11 out.length (ptcells out) (by rfl) ((hown.alloc _).drew) ⟨wr.heap.size, 0, none⟩ 1 1 [.string (sb p.ref), .int .i64 p.lo, .int .i64 p.hi, .int .u8 0] (by rfl) (by rfl) (World.news_of_block (cs := #[.string (sb p.ref), .int .i64 p.lo, .int .i64 p.hi, .int .u8 0]) (t := 68) (fr := (0, 0)) (heap_alloc_new wr _)) (by simp [Value.oneCell']) (by omega) (by unfold maxLen; omega) (by omega) (by simp; omega) (wr.heap.size + 1) (by simp) ?_; intro gg cap w3 hown3 hgrow hat hlt3))
            have Q4 : Hid (BoxQ w nm (.slice (some ⟨g, o, none⟩) n c) w3) := ((Below.alloc Q3.out (by omega) _).drew).grown hgrow (by simp; omega) HL1.out
            have HO : Hid (w3.ownsRow (w.heap.size + 1) 68 4 (.slice (some ⟨gg, 0, none⟩) (out.length + 1) cap) (out ++ [(⟨p.ref, p.lo, p.hi, 0⟩ : Pt)]).length (ptcells (out ++ [(⟨p.ref, p.lo, p.hi, 0⟩ : Pt)]))) := by
              unfold Hid
              rw [ptcells_snoc, List.length_append]
              exact hown3
            have HOK : Hid (∀ x ∈ out ++ [(⟨p.ref, p.lo, p.hi, 0⟩ : Pt)], PtOk x) := by
              intro x hx
              rw [List.mem_append, List.mem_singleton] at hx
              rcases hx with hx | rfl
              · exact hok.out x hx
              · exact ⟨hpo.1, by show (0 : Nat) < 256; decide⟩
            clear hown hown3 hgrow hat
            go_wp2
            go_roundw
            case rel => exact ⟨i - 1, k, _, hn1, congrArg (Value.int .i64) (by omega), by have := HK.out; omega, HO.out, by simp; omega, Q4, HOK, HGO.out⟩
            case measure => simp [intOf]; omega
  · have e1 : (ch != 0) = true := bne_iff_ne.2 h0
    have H0 := Lib.hid h0
    clear h0
    go_wp2
    go_ret2
    exact HPOST.out _ _ _ _ (by rw [← HR.out]; unfold expOut; rw [if_neg (by rw [HC.out]; exact H0.out), HC.out]) (ptsR_nil _) Q1.out.below
end Go.Proofs.YtgnnblkpjankgaaGreatDoor
