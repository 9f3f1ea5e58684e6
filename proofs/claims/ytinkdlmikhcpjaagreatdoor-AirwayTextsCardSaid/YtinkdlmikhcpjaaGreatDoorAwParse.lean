/-
  Contracts: airway.Parse and flightdeckref15.Parse: the airway of a text, or its diagnostics.
-/
import Derived.Test.YtinkdlmikhcpjaaGreatDoorAwBack
import Derived.Test.YtinkdlmikhcpjaaGreatDoorMTak
namespace Go
/-- what a cell has is stored: nothing turns -/
theorem setCell_val {w : World} {a : Addr} {v : Value} (h : w.cell? a = some v) : w.setCell a v = w := by
  have e : (w.setCell a v).heap = w.heap := by
    unfold World.setCell
    apply Array.ext
    · simp
    · intro i h1 h2
      rw [Array.getElem_modify]
      split
      · next hi =>
        subst hi
        unfold World.cell? at h
        rw [Array.getElem?_eq_getElem h2] at h
        cases ho : w.heap[a.block] with
        | cells c el fr =>
          rw [ho] at h
          simp only at h ⊢
          split at h
          · cases h
          · next hs =>
            rw [if_neg hs]
            congr 1
            apply Array.ext
            · simp
            · intro j j1 j2
              rw [Array.getElem_setIfInBounds]
              split
              · next hj =>
                subst hj
                rw [Array.getElem?_eq_getElem j2] at h
                simpa using h.symm
              · rfl
        | _ => rw [ho] at h
      · rfl
  exact Eq.trans (b := { w with heap := (w.setCell a v).heap }) rfl (by rw [e])
end Go
namespace Go.Proofs.YtinkdlmikhcpjaaGreatDoor
open Go.RowKit
set_option linter.unusedVariables false
set_option linter.unusedSimpArgs false

/-- diagnostics in memory, their lines any numbers -/
def di3 (l : List (Int × Int × Int)) : List Value := l.flatMap fun d => [.int .i64 d.1, .int .i64 d.2.1, .int .i64 d.2.2]
def DiR (w : World) (v : Value) (ds : List (Int × Int × Int)) : Prop := Rd w 3 v ds.length (di3 ds)
theorem di_of {w : World} {v : Value} {ds : List Dg} (h : DgsR w v ds) : DiR w v (ds.map fun d => ((d.1 : Int), d.2.1, d.2.2)) := by
  have e : di3 (ds.map fun d => ((d.1 : Int), d.2.1, d.2.2)) = dcells ds := by unfold di3 dcells; rw [List.flatMap_map]
  unfold DiR
  rw [List.length_map, e]
  exact h.1
theorem DiR.form {w : World} {v : Value} {ds : List (Int × Int × Int)} (h : DiR w v ds) : ∃ A c, v = .slice A ds.length c ∧ ds.length ≤ c ∧ c ≤ maxLen := Rd.form h
theorem DiR.below {w w' : World} {v : Value} {ds : List (Int × Int × Int)} (h : DiR w v ds) (hb : Below w.heap.size w w') : DiR w' v ds := Rd.below h hb
theorem di3_at (l : List (Int × Int × Int)) : ∀ (k : Nat) (h : k < l.length), (di3 l)[k * 3]? = some (.int .i64 l[k].1) ∧ (di3 l)[k * 3 + 1]? = some (.int .i64 l[k].2.1) ∧ (di3 l)[k * 3 + 2]? = some (.int .i64 l[k].2.2) := by
  induction l with
  | nil => intro k h; simp at h
  | cons d l ih =>
    intro k h
    cases k with
    | zero => exact ⟨rfl, rfl, rfl⟩
    | succ k =>
      have := ih k (by simpa using h)
      rw [show (k + 1) * 3 = k * 3 + 3 by omega]
      exact this
theorem DiR.at_ {w : World} {v : Value} {l : List (Int × Int × Int)} (h : DiR w v l) {k : Nat} (hk : k < l.length) :
    ∃ g o c, v = .slice (some ⟨g, o, none⟩) l.length c ∧ w.cell? ⟨g, o + k * 3, none⟩ = some (.int .i64 l[k].1) ∧ w.cell? ⟨g, o + k * 3 + 1, none⟩ = some (.int .i64 l[k].2.1) ∧ w.cell? ⟨g, o + k * 3 + 2, none⟩ = some (.int .i64 l[k].2.2) := by
  obtain ⟨hl, A, c, hv, hc, hm, hr⟩ := h
  obtain ⟨g, o, rfl, hg, hx⟩ := hr (by omega)
  obtain ⟨h0, h1, h2⟩ := di3_at l k hk
  exact ⟨g, o, c, hv, hx _ _ h0, hx _ _ h1, hx _ _ h2⟩
theorem di_one (w : World) (a b c : Int) (T : TypeId) : DiR (w.alloc (.cells #[.int .i64 a, .int .i64 b, .int .i64 c] T)) (.slice (some ⟨w.heap.size, 0, none⟩) 1 1) [(a, b, c)] :=
  (rdT_new w [.int .i64 a, .int .i64 b, .int .i64 c] T 3 1 rfl (by unfold maxLen; omega)).1
theorem pts_set {w : World} {v : Value} {l : List Pt} (h : PtsR w v l) {b : Nat} (hb : AwB w b [] (.slice none 0 0)) (u1 u2 : Value) : PtsR ((w.setCell ⟨b, 0, none⟩ u1).setCell ⟨b, 1, none⟩ u2) v l := by
  obtain ⟨⟨hl, A, c, hv, hc, hm, hr⟩, hok⟩ := h
  refine ⟨⟨hl, A, c, hv, hc, hm, fun h0 => ?_⟩, hok⟩
  obtain ⟨g, o, hA, hg, hx⟩ := hr h0
  have hne : g ≠ b := by
    rintro rfl
    obtain ⟨_, k1, _, _⟩ := ptcells_at l 0 h0
    have x1 := hx _ _ k1
    have hb2 : w.heap[g]? = some (.cells #[.string (sb []), .slice none 0 0] 36 (0, 0)) := hb
    unfold World.cell? at x1
    rw [hb2] at x1
    match o, x1 with
    | 0, x1 => simp at x1
    | o + 1, x1 => simp at x1
  have e : ((w.setCell ⟨b, 0, none⟩ u1).setCell ⟨b, 1, none⟩ u2).heap[g]? = w.heap[g]? := (heap_setCell_other _ _ _ _ hne).trans (heap_setCell_other _ _ _ _ hne)
  refine ⟨g, o, hA, by simpa using hg, fun j u hu => ?_⟩
  have := hx j u hu
  unfold World.cell? at this ⊢
  rw [e]; exact this
def PaPost (s : List UInt8) (w : World) (e : Ending) (w' : World) : Prop :=
  ∃ pv dv, e = .returned (.tuple #[.agg #[.string (sb (paNm s)), pv], dv]) ∧ PtsR w' pv (paPts s) ∧ DiR w' dv (paDgs s) ∧ Below w.heap.size w w'
theorem paPost_mk {s : List UInt8} {w w' : World} {nm : ByteArray} {pv dv : Value} (h1 : sb (paNm s) = nm) (h2 : PtsR w' pv (paPts s)) (h3 : DiR w' dv (paDgs s)) (hb : Below w.heap.size w w') :
    PaPost s w (.returned (.tuple #[.agg #[.string nm, pv], dv])) w' := by
  subst h1; exact ⟨pv, dv, rfl, h2, h3, hb⟩
theorem pa_dg {s : List UInt8} (h : readDgs s ≠ []) : paNm s = [] ∧ paPts s = [] ∧ paDgs s = (readDgs s).map fun d => ((d.1 : Int), d.2.1, d.2.2) := by
  unfold paNm paPts paDgs; rw [if_neg h, if_neg h, if_neg h]; exact ⟨rfl, rfl, rfl⟩
theorem pa_ok {s : List UInt8} (h : readDgs s = []) (h2 : (paO s).bad = false) : paNm s = (paO s).nm ∧ paPts s = (paO s).pts ∧ paDgs s = [] := by
  unfold paNm paPts paDgs; rw [if_pos h, if_pos h, if_pos h, h2]; exact ⟨rfl, rfl, rfl⟩
theorem tk_bad_nil : ∀ {L : List Ln}, (takeO L).bad = true → (takeO L).nm = [] ∧ (takeO L).pts = []
  | [], _ => ⟨rfl, rfl⟩
  | x :: r, h => by
    have go : ∀ (nm : List UInt8) (l0 c0 : Int) (r : List Ln) (done : List Pt), (ptsGo nm l0 c0 done r).bad = true → (ptsGo nm l0 c0 done r).nm = [] ∧ (ptsGo nm l0 c0 done r).pts = [] := by
      intro nm l0 c0 r
      induction r with
      | nil =>
        intro done h
        unfold ptsGo at h ⊢
        split
        · next h2 => rw [if_pos h2] at h; cases h
        · exact ⟨rfl, rfl⟩
      | cons y r ih =>
        intro done h
        unfold ptsGo at h ⊢
        split
        · exact ⟨rfl, rfl⟩
        · next h2 => rw [if_neg h2] at h; exact ih _ h
    have e : takeO (x :: r) = if (hd2 x).endB then tkBad (hd2 x) else ptsGo (hdNm x) x.1 (fld x.2 0).2 [] r := rfl
    rw [e] at h ⊢
    split
    · exact ⟨rfl, rfl⟩
    · next h2 => rw [if_neg h2] at h; exact go _ _ _ _ _ h
theorem pa_bad {s : List UInt8} (h : readDgs s = []) (h2 : (paO s).bad = true) : paNm s = [] ∧ paPts s = [] ∧ paDgs s = [((paO s).dl, (paO s).dc, (paO s).de)] := by
  have := tk_bad_nil h2
  unfold paNm paPts paDgs; rw [if_pos h, if_pos h, if_pos h, h2]; exact ⟨this.1, this.2, rfl⟩
set_option maxRecDepth 100000 in
set_option maxHeartbeats 4000000 in
theorem parse15_any (s : ByteArray) (w : World) (E : Env w) (hs : s.size ≤ maxLen) : Calls Tryz.prog 24 #[.string s] w (PaPost (bl s) w) := by
  have E0 := E.alloc (.cells #[.string ⟨#[]⟩, .slice none 0 0] 36)
  have B0 : Hid (AwB (w.alloc (.cells #[.string ⟨#[]⟩, .slice none 0 0] 36)) w.heap.size [] (.slice none 0 0)) := heap_alloc_new w _
  have HB0 : Hid (Below w.heap.size w (w.alloc (.cells #[.string ⟨#[]⟩, .slice none 0 0] 36))) := (Below.refl _ _).alloc (Nat.le_refl _) _
  go_enter Tryz.func24, Tryz.ntmps24
  go_wp2_with fail
  refine (read_any s _ E0 hs).mono ?_
  rintro e w1 ⟨v, d, rfl, hv, hd, hb1⟩
  have B1 : Hid (AwB w1 w.heap.size [] (.slice none 0 0)) := (hb1.block _ (by simp)).trans B0.out
  have HB1 := Lib.hid (Below.then_ HB0.out hb1)
  have E1 := E.below HB1.out
  have LN := Lib.hid (lns_of hv (readRecs_small (bl s)).1)
  have HLL : Hid (((readRecs (bl s)).map lnOf).length ≤ 4398046511104) := by unfold Hid; rw [List.length_map]; have := (readRecs_small (bl s)).2; omega
  have DI := Lib.hid (di_of hd)
  obtain ⟨Ad, cd, hdv, _, _⟩ := hd.1.form
  subst hdv
  have hsz := heap_lt2 B1.out
  obtain ⟨c0, c1, _⟩ := B1.out.cells
  obtain ⟨f0, f1⟩ := B1.out.frees
  clear hv hd hb1 B0 HB0
  by_cases h0 : readDgs (bl s) = []
  · have hl0 : (((readDgs (bl s)).length : Nat) : Int) ≤ 0 := by rw [h0]; simp
    have H0 := Lib.hid h0
    have HPO : Hid (paO (bl s) = takeO ((readRecs (bl s)).map lnOf)) := rfl
    clear h0 DI
    generalize (readDgs (bl s)).length = nd at hl0 ⊢
    go_wp2_with fail
    refine (take15_any _ _ _ E1 LN.out HLL.out).mono ?_
    rintro e w2 ⟨pv, rfl, hpv, hb2⟩
    rw [← HPO.out] at hpv ⊢
    have HOK := Lib.hid (pa_ok H0.out (s := bl s))
    have HBD := Lib.hid (pa_bad H0.out (s := bl s))
    obtain ⟨O, hO⟩ : ∃ O, paO (bl s) = O := ⟨_, rfl⟩
    rw [hO] at hpv HOK HBD ⊢
    clear hO HPO
    obtain ⟨nm, pts, dl, dc, de, bd⟩ := O
    simp only at hpv HOK HBD ⊢
    have B2 : Hid (AwB w2 w.heap.size [] (.slice none 0 0)) := (hb2.block _ hsz).trans B1.out
    have HB2 := Lib.hid (Below.then_ HB1.out hb2)
    have K2 : Hid (Below w2.heap.size w2 ((w2.alloc (.cells #[.string (sb nm), pv] 36)).alloc (.cells #[.int .i64 dl, .int .i64 dc, .int .i64 de] 39))) := ((Below.refl _ _).alloc (Nat.le_refl _) _).alloc (by simp) _
    have P3 := Lib.hid (hpv.below K2.out)
    have B3 : Hid (AwB ((w2.alloc (.cells #[.string (sb nm), pv] 36)).alloc (.cells #[.int .i64 dl, .int .i64 dc, .int .i64 de] 39)) w.heap.size [] (.slice none 0 0)) := (K2.out.block _ (heap_lt2 B2.out)).trans B2.out
    have HB3 := Lib.hid (Below.then_ HB2.out K2.out)
    obtain ⟨Ap, cp, hpf, _, _⟩ := hpv.form
    subst hpf
    clear hsz c0 c1 f0 f1
    have hsz := heap_lt2 B2.out
    obtain ⟨c0, c1, _⟩ := B2.out.cells
    obtain ⟨f0, f1⟩ := B2.out.frees
    have P2 := Lib.hid hpv
    clear hpv hb2
    cases bd
    · have HK := Lib.hid (HOK.out rfl)
      have P4 := Lib.hid ((pts_set P2.out B2.out (.string (sb nm)) (.slice Ap pts.length cp)).below (((Below.refl _ _).alloc (Nat.le_refl _) (.cells #[.string (sb nm), .slice Ap pts.length cp] 36)).alloc (by simp) (.cells #[.int .i64 dl, .int .i64 dc, .int .i64 de] 39)))
      have d1 : ((w2.alloc (.cells #[.string (sb nm), .slice Ap pts.length cp] 36)).alloc (.cells #[.int .i64 dl, .int .i64 dc, .int .i64 de] 39)).heap.size = w2.heap.size + 1 + 1 := by simp
      go_wp2
      exact bodyPost_ret (v := .tuple #[.agg #[.string (sb nm), .slice Ap pts.length cp], .slice none 0 0]) (by simp [results, Tryz.results24, go_sem, c0, c1, hsz]) rfl (paPost_mk (by rw [HK.out.1]) (by rw [HK.out.2.1]; exact P4.out) (by rw [HK.out.2.2]; exact Rd.nil _ _) (by repeat (with_reducible first | exact HB2.out | refine Below.setCell ?_ (by first | (simp; done) | (simp; omega)) _ | refine Below.alloc ?_ (by have := HB2.out.size; simp; omega) _)))
    · have HK := Lib.hid (HBD.out rfl)
      have D3 : Hid (DgT ((w2.alloc (.cells #[.string (sb nm), .slice Ap pts.length cp] 36)).alloc (.cells #[.int .i64 dl, .int .i64 dc, .int .i64 de] 39)) (w2.heap.size + 1) dl dc de) := by
        have := heap_alloc_new (w2.alloc (.cells #[.string (sb nm), .slice Ap pts.length cp] 36)) (.cells #[.int .i64 dl, .int .i64 dc, .int .i64 de] 39)
        rw [World.size_alloc] at this
        exact this
      clear c0 c1 f0 f1
      go_wp2
      generalize ((w2.alloc (.cells #[.string (sb nm), .slice Ap pts.length cp] 36)).alloc (.cells #[.int .i64 dl, .int .i64 dc, .int .i64 de] 39)) = w3 at B3 D3 HB3 ⊢
      obtain ⟨c0, c1, hsz3⟩ := B3.out.cells
      obtain ⟨f0, f1⟩ := B3.out.frees
      obtain ⟨d0, d1, d2, d3⟩ := D3.out.cells
      have s0 : w3.setCell ⟨w.heap.size, 0, none⟩ (.string ⟨#[]⟩) = w3 := setCell_val c0
      have s1 : w3.setCell ⟨w.heap.size, 1, none⟩ (.slice none 0 0) = w3 := setCell_val c1
      go_region
      go_wp2
      exact bodyPost_ret (v := .tuple #[.agg #[.string ⟨#[]⟩, .slice none 0 0], .slice (some ⟨w3.heap.size, 0, none⟩) 1 1]) (by simp [results, Tryz.results24, go_sem, c0, c1, hsz3]; try rfl) rfl (paPost_mk (by rw [HK.out.1]; rfl) (by rw [HK.out.2.1]; exact ptsR_nil _) (by rw [HK.out.2.2]; exact (Rd.drew (di_one w3 dl dc de _))) ((HB3.out.alloc HB3.out.size _).drew))
  · have hl0 : (0 : Int) < (((readDgs (bl s)).length : Nat) : Int) := by
      have : 0 < (readDgs (bl s)).length := List.length_pos_iff.2 h0
      omega
    have HK := Lib.hid (pa_dg h0)
    have s0 : w1.setCell ⟨w.heap.size, 0, none⟩ (.string ⟨#[]⟩) = w1 := setCell_val c0
    have s1 : w1.setCell ⟨w.heap.size, 1, none⟩ (.slice none 0 0) = w1 := setCell_val c1
    clear h0
    have HLD : Hid (((readDgs (bl s)).map fun d => ((d.1 : Int), d.2.1, d.2.2)).length = (readDgs (bl s)).length) := List.length_map _
    go_wp2
    exact bodyPost_ret (v := .tuple #[.agg #[.string ⟨#[]⟩, .slice none 0 0], .slice Ad (readDgs (bl s)).length cd]) (by simp [results, Tryz.results24, go_sem, c0, c1, hsz]; try rfl) rfl (paPost_mk (by rw [HK.out.1]; rfl) (by rw [HK.out.2.1]; exact ptsR_nil _) (by rw [HK.out.2.2]; exact DI.out) HB1.out)
set_option maxRecDepth 100000 in
set_option maxHeartbeats 4000000 in
theorem rparse15_any (s : ByteArray) (w : World) (E : Env w) (hs : s.size ≤ maxLen) : Calls Tryz.prog 25 #[.string s] w (PaPost (bl s) w) := by
  have E0 := E.alloc (.cells #[.string ⟨#[]⟩, .slice none 0 0] 36)
  have B0 : Hid (AwB (w.alloc (.cells #[.string ⟨#[]⟩, .slice none 0 0] 36)) w.heap.size [] (.slice none 0 0)) := heap_alloc_new w _
  have HB0 : Hid (Below w.heap.size w (w.alloc (.cells #[.string ⟨#[]⟩, .slice none 0 0] 36))) := (Below.refl _ _).alloc (Nat.le_refl _) _
  go_enter Tryz.func25, Tryz.ntmps25
  go_wp2_with fail
  refine (rread_any s _ hs).mono ?_
  rintro e w1 ⟨v, d, rfl, hv, hd, hb1⟩
  have B1 : Hid (AwB w1 w.heap.size [] (.slice none 0 0)) := (hb1.block _ (by simp)).trans B0.out
  have HB1 := Lib.hid (Below.then_ HB0.out hb1)
  have E1 := E.below HB1.out
  have LN := Lib.hid (lns_of hv (readRecs_small (bl s)).1)
  have HLL : Hid (((readRecs (bl s)).map lnOf).length ≤ 4398046511104) := by unfold Hid; rw [List.length_map]; have := (readRecs_small (bl s)).2; omega
  have DI := Lib.hid (di_of hd)
  obtain ⟨Ad, cd, hdv, _, _⟩ := hd.1.form
  subst hdv
  have hsz := heap_lt2 B1.out
  obtain ⟨c0, c1, _⟩ := B1.out.cells
  obtain ⟨f0, f1⟩ := B1.out.frees
  clear hv hd hb1 B0 HB0
  by_cases h0 : readDgs (bl s) = []
  · have hl0 : (((readDgs (bl s)).length : Nat) : Int) ≤ 0 := by rw [h0]; simp
    have H0 := Lib.hid h0
    have HPO : Hid (paO (bl s) = takeO ((readRecs (bl s)).map lnOf)) := rfl
    clear h0 DI
    generalize (readDgs (bl s)).length = nd at hl0 ⊢
    go_wp2_with fail
    refine (rtake15_any _ _ _ E1 LN.out HLL.out).mono ?_
    rintro e w2 ⟨pv, rfl, hpv, hb2⟩
    rw [← HPO.out] at hpv ⊢
    have HOK := Lib.hid (pa_ok H0.out (s := bl s))
    have HBD := Lib.hid (pa_bad H0.out (s := bl s))
    obtain ⟨O, hO⟩ : ∃ O, paO (bl s) = O := ⟨_, rfl⟩
    rw [hO] at hpv HOK HBD ⊢
    clear hO HPO
    obtain ⟨nm, pts, dl, dc, de, bd⟩ := O
    simp only at hpv HOK HBD ⊢
    have B2 : Hid (AwB w2 w.heap.size [] (.slice none 0 0)) := (hb2.block _ hsz).trans B1.out
    have HB2 := Lib.hid (Below.then_ HB1.out hb2)
    have K2 : Hid (Below w2.heap.size w2 ((w2.alloc (.cells #[.string (sb nm), pv] 36)).alloc (.cells #[.int .i64 dl, .int .i64 dc, .int .i64 de] 39))) := ((Below.refl _ _).alloc (Nat.le_refl _) _).alloc (by simp) _
    have P3 := Lib.hid (hpv.below K2.out)
    have B3 : Hid (AwB ((w2.alloc (.cells #[.string (sb nm), pv] 36)).alloc (.cells #[.int .i64 dl, .int .i64 dc, .int .i64 de] 39)) w.heap.size [] (.slice none 0 0)) := (K2.out.block _ (heap_lt2 B2.out)).trans B2.out
    have HB3 := Lib.hid (Below.then_ HB2.out K2.out)
    obtain ⟨Ap, cp, hpf, _, _⟩ := hpv.form
    subst hpf
    clear hsz c0 c1 f0 f1
    have hsz := heap_lt2 B2.out
    obtain ⟨c0, c1, _⟩ := B2.out.cells
    obtain ⟨f0, f1⟩ := B2.out.frees
    have P2 := Lib.hid hpv
    clear hpv hb2
    cases bd
    · have HK := Lib.hid (HOK.out rfl)
      have P4 := Lib.hid ((pts_set P2.out B2.out (.string (sb nm)) (.slice Ap pts.length cp)).below (((Below.refl _ _).alloc (Nat.le_refl _) (.cells #[.string (sb nm), .slice Ap pts.length cp] 36)).alloc (by simp) (.cells #[.int .i64 dl, .int .i64 dc, .int .i64 de] 39)))
      have d1 : ((w2.alloc (.cells #[.string (sb nm), .slice Ap pts.length cp] 36)).alloc (.cells #[.int .i64 dl, .int .i64 dc, .int .i64 de] 39)).heap.size = w2.heap.size + 1 + 1 := by simp
      go_wp2
      exact bodyPost_ret (v := .tuple #[.agg #[.string (sb nm), .slice Ap pts.length cp], .slice none 0 0]) (by simp [results, Tryz.results25, go_sem, c0, c1, hsz]) rfl (paPost_mk (by rw [HK.out.1]) (by rw [HK.out.2.1]; exact P4.out) (by rw [HK.out.2.2]; exact Rd.nil _ _) (by repeat (with_reducible first | exact HB2.out | refine Below.setCell ?_ (by first | (simp; done) | (simp; omega)) _ | refine Below.alloc ?_ (by have := HB2.out.size; simp; omega) _)))
    · have HK := Lib.hid (HBD.out rfl)
      have D3 : Hid (DgT ((w2.alloc (.cells #[.string (sb nm), .slice Ap pts.length cp] 36)).alloc (.cells #[.int .i64 dl, .int .i64 dc, .int .i64 de] 39)) (w2.heap.size + 1) dl dc de) := by
        have := heap_alloc_new (w2.alloc (.cells #[.string (sb nm), .slice Ap pts.length cp] 36)) (.cells #[.int .i64 dl, .int .i64 dc, .int .i64 de] 39)
        rw [World.size_alloc] at this
        exact this
      clear c0 c1 f0 f1
      go_wp2
      generalize ((w2.alloc (.cells #[.string (sb nm), .slice Ap pts.length cp] 36)).alloc (.cells #[.int .i64 dl, .int .i64 dc, .int .i64 de] 39)) = w3 at B3 D3 HB3 ⊢
      obtain ⟨c0, c1, hsz3⟩ := B3.out.cells
      obtain ⟨f0, f1⟩ := B3.out.frees
      obtain ⟨d0, d1, d2, d3⟩ := D3.out.cells
      have s0 : w3.setCell ⟨w.heap.size, 0, none⟩ (.string ⟨#[]⟩) = w3 := setCell_val c0
      have s1 : w3.setCell ⟨w.heap.size, 1, none⟩ (.slice none 0 0) = w3 := setCell_val c1
      go_region
      go_wp2
      exact bodyPost_ret (v := .tuple #[.agg #[.string ⟨#[]⟩, .slice none 0 0], .slice (some ⟨w3.heap.size, 0, none⟩) 1 1]) (by simp [results, Tryz.results25, go_sem, c0, c1, hsz3]; try rfl) rfl (paPost_mk (by rw [HK.out.1]; rfl) (by rw [HK.out.2.1]; exact ptsR_nil _) (by rw [HK.out.2.2]; exact (Rd.drew (di_one w3 dl dc de _))) ((HB3.out.alloc HB3.out.size _).drew))
  · have hl0 : (0 : Int) < (((readDgs (bl s)).length : Nat) : Int) := by
      have : 0 < (readDgs (bl s)).length := List.length_pos_iff.2 h0
      omega
    have HK := Lib.hid (pa_dg h0)
    have s0 : w1.setCell ⟨w.heap.size, 0, none⟩ (.string ⟨#[]⟩) = w1 := setCell_val c0
    have s1 : w1.setCell ⟨w.heap.size, 1, none⟩ (.slice none 0 0) = w1 := setCell_val c1
    clear h0
    have HLD : Hid (((readDgs (bl s)).map fun d => ((d.1 : Int), d.2.1, d.2.2)).length = (readDgs (bl s)).length) := List.length_map _
    go_wp2
    exact bodyPost_ret (v := .tuple #[.agg #[.string ⟨#[]⟩, .slice none 0 0], .slice Ad (readDgs (bl s)).length cd]) (by simp [results, Tryz.results25, go_sem, c0, c1, hsz]; try rfl) rfl (paPost_mk (by rw [HK.out.1]; rfl) (by rw [HK.out.2.1]; exact ptsR_nil _) (by rw [HK.out.2.2]; exact DI.out) HB1.out)
end Go.Proofs.YtinkdlmikhcpjaaGreatDoor
