/-
  Contracts: the points that two airways share, on both sides; the law's comparisons.
-/
import Derived.Test.YtkopjbjkfeopfaaDoorAwCheck
import Derived.Maps.AppendAt
namespace Go.Proofs.YtkopjbjkfeopfaaDoor
open Go.RowKit
set_option linter.unusedVariables false
set_option linter.unusedSimpArgs false

def scells (l : List (List UInt8)) : List Value := l.map fun x => .string (sb x)
theorem scells_snoc (l : List (List UInt8)) (x : List UInt8) : scells (l ++ [x]) = scells l ++ [.string (sb x)] := by
  unfold scells; rw [List.map_append]; rfl
theorem infoString : (Tryd.prog.info? 9).map (fun i => (i.zero, i.size, i.bytes)) = some (some (.string ⟨#[]⟩), 1, 16) := by kernel_rfl
theorem cell_one_new (w : World) (a : Value) (t : TypeId) : ∀ j u, [a][j]? = some u → (w.alloc (.cells #[a] t)).cell? ((⟨w.heap.size, 0, none⟩ : Addr).add j) = some u := by
  intro j u h
  match j, h with
  | 0, h => simp at h; subst h; simp [Addr.add_lit, go_sem]
  | j + 1, h => simp at h
def comL (l m : List Pt) : List (List UInt8) := (l.filter fun p => decide (0 ≤ idxOf m p.ref)).map (·.ref)
theorem com_step {l m : List Pt} {k : Nat} (h : k < l.length) : comL (l.take (k + 1)) m = comL (l.take k) m ++ if 0 ≤ idxOf m l[k].ref then [l[k].ref] else [] := by
  unfold comL
  rw [List.take_succ_eq_append_getElem h, List.filter_append, List.map_append]
  by_cases hc : 0 ≤ idxOf m l[k].ref
  · rw [if_pos hc, List.filter_cons_of_pos (by simpa using hc)]; rfl
  · rw [if_neg hc, List.filter_cons_of_neg (by simpa using hc)]; rfl
theorem com_len (l m : List Pt) (k : Nat) : (comL (l.take k) m).length ≤ k := by
  unfold comL
  rw [List.length_map]
  exact Nat.le_trans (List.length_filter_le _ _) (List.length_take_le _ _)
theorem own_below {base : Nat} {w w' : World} {e : TypeId} {size n : Nat} {v : Value} {xs : List Value} (h : w.ownsRow base e size v n xs) (hb : Below w.heap.size w w') : w'.ownsRow base e size v n xs := by
  obtain ⟨hl, h2 | ⟨g, cap, cur, hv, hg, hh, r⟩⟩ := h
  · exact ⟨hl, .inl h2⟩
  · exact ⟨hl, .inr ⟨g, cap, cur, hv, hg, (hb.block g (Array.getElem?_eq_some_iff.1 hh).1).trans hh, r⟩⟩
/-- texts in memory -/
def StrR (w : World) (v : Value) (l : List (List UInt8)) : Prop := Rd w 1 v l.length (scells l)
def ComPost (l m : List Pt) (w : World) (e : Ending) (w' : World) : Prop := ∃ v, e = .returned v ∧ StrR w' v (comL l m) ∧ Below w.heap.size w w'
set_option maxRecDepth 100000 in
set_option maxHeartbeats 4000000 in
theorem index_any_common (nm nm' : ByteArray) (v v' : Value) (l m : List Pt) (w : World) (h : PtsR w v l) (h' : PtsR w v' m) (hlen : l.length ≤ 4398046511104) :
    Calls Tryd.prog 23 #[.agg #[.string nm, v], .agg #[.string nm', v']] w (ComPost l m w) := by
  obtain ⟨i0, hi, hz0, hz1, hz2⟩ := info_parts infoString
  obtain ⟨A, c, rfl, hc, hm⟩ := h.form
  obtain ⟨A', c', rfl, hc', hm'⟩ := h'.form
  unfold maxLen at hm hm'
  have H := Lib.hid h
  have H' := Lib.hid h'
  clear h h'
  obtain ⟨n, hnn⟩ : ∃ n, l.length = n := ⟨_, rfl⟩
  rw [hnn] at hc H hlen
  rw [hnn]
  have HN := Lib.hid hnn
  clear hnn
  go_enter Tryd.func23, Tryd.ntmps23
  go_wp2
  go_loopw [5, 11] (fun v i wr => ∃ k : Nat, k ≤ n ∧ i = .int .i64 k ∧ wr.ownsRow (w.heap.size + 2) 9 1 v (comL (l.take k) m).length (scells (comL (l.take k) m)) ∧ Below (w.heap.size + 2) ((w.alloc (.cells #[.string nm, .slice A n c] 24)).alloc (.cells #[.string nm', .slice A' m.length c'] 24)) wr) (fun _ i _ => n - (intOf i).toNat)
  case atStart => exact ⟨0, Nat.zero_le _, rfl, World.ownsRow_nil _ _ _ _, Below.refl _ _⟩
  case round =>
    obtain ⟨k, hk, rfl, hown, hbx⟩ := hrel
    have hbr : Hid (Below w.heap.size w wr) := (((Below.refl w.heap.size w).alloc (Nat.le_refl _) _).alloc (by simp) _).trans (hbx.mono (by omega))
    by_cases hlt : k < n
    · have hkl : k < l.length := by rw [HN.out]; exact hlt
      obtain ⟨g, o, cx, hA, hg, h0, h1, h2, h3⟩ := H.out.at_ hkl
      rw [HN.out] at hA
      simp only [Value.slice.injEq, true_and] at hA
      obtain ⟨rfl, rfl⟩ := hA
      have k0 := (hbr.out.cell (p := ⟨g, o + k * 4, none⟩) hg).trans h0
      have k1 := (hbr.out.cell (p := ⟨g, o + k * 4 + 1, none⟩) hg).trans h1
      have k2 := (hbr.out.cell (p := ⟨g, o + k * 4 + 2, none⟩) hg).trans h2
      have k3 := (hbr.out.cell (p := ⟨g, o + k * 4 + 3, none⟩) hg).trans h3
      have HS := Lib.hid (com_step (m := m) hkl)
      have hcl := com_len l m k
      obtain ⟨p, hp⟩ : ∃ p, l[k] = p := ⟨_, rfl⟩
      rw [hp] at k0 k1 k2 k3 HS
      obtain ⟨done, hd⟩ : ∃ d, comL (l.take k) m = d := ⟨_, rfl⟩
      rw [hd] at HS hown hcl
      clear h0 h1 h2 h3 hp hkl hd hg
      have bs : w.heap.size + 2 ≤ wr.heap.size := by have := hbx.size; simp at this; omega
      have b0 : wr.cell? ⟨w.heap.size + 1, 0, none⟩ = some (.string nm') := (hbx.cell (p := ⟨w.heap.size + 1, 0, none⟩) (by simp)).trans (by simp [go_sem])
      have b1 : wr.cell? ⟨w.heap.size + 1, 1, none⟩ = some (.slice A' m.length c') := (hbx.cell (p := ⟨w.heap.size + 1, 1, none⟩) (by simp)).trans (by simp [go_sem])
      have bs1 : w.heap.size + 1 < wr.heap.size := by omega
      have hba := Lib.hid (hbr.out.alloc (by omega) (.cells #[.string (sb p.ref), .int .i64 p.lo, .int .i64 p.hi, .int .u8 (p.dir : Int)] 34))
      have hbxa := Lib.hid (hbx.alloc bs (.cells #[.string (sb p.ref), .int .i64 p.lo, .int .i64 p.hi, .int .u8 (p.dir : Int)] 34))
      go_wp2_with fail
      refine (index_any nm' (sb p.ref) _ m _ (H'.out.below hba.out)).mono ?_
      rintro e1 w2 ⟨rfl, hb2⟩
      rw [bl_sb]
      have hbx2 := hbxa.out.trans (hb2.mono (by simp; omega))
      have HO := Lib.hid (own_below (hown.alloc _) hb2)
      have y0 : wr.heap.size < w2.heap.size := Nat.lt_of_lt_of_le (by simp) hb2.size
      have y1 : w2.cell? ⟨wr.heap.size, 0, none⟩ = some (.string (sb p.ref)) := (hb2.cell (p := ⟨wr.heap.size, 0, none⟩) (by simp)).trans (by simp [go_sem])
      obtain ⟨ix, hix⟩ : ∃ ix, idxOf m p.ref = ix := ⟨_, rfl⟩
      rw [hix] at HS ⊢
      clear hix hb2 hba hbxa hown k0 k1 k2 k3 b0 b1
      by_cases h0 : 0 ≤ ix
      · rw [if_pos h0] at HS
        have hown := HO.out
        go_wp2_with (at_builtin; refine wpList_append_own _ rfl (.tmp 20) (.tmp 23) 40 rfl (w.heap.size + 2) 9 i0 (.string ⟨#[]⟩) 1 16 Tryd.underlying40 hi hz0 hz1 hz2 rfl (by decide) _ _ _ rfl (hown.alloc _) ⟨w2.heap.size, 0, none⟩ 1 1 [.string (sb p.ref)] rfl rfl (cell_one_new _ _ _) (by intro u hu; simp at hu; rcases hu with rfl; rfl) (by unfold maxLen; omega) (by omega) (by simp; omega) ?_)
        intro v1 w3 hown' hgrow _
        have hlt3 : ∀ j, u5.ownBlock = some j → w.heap.size + 2 ≤ j := fun j hj => (hown.lt j hj).1
        have hbx3 := Lib.hid ((hbx2.alloc (by omega) _).grown hgrow (by simp; omega) hlt3)
        have HO3 : Hid (w3.ownsRow (w.heap.size + 2) 9 1 v1 (comL (l.take (k + 1)) m).length (scells (comL (l.take (k + 1)) m))) := by
          unfold Hid
          rw [HS.out, scells_snoc, List.length_append]
          exact hown'
        clear hown hown' hgrow hlt3
        go_wp2
        go_roundw
        case rel => exact ⟨k + 1, hlt, by go_num, HO3.out, hbx3.out⟩
        case measure => simp [intOf]; omega
      · rw [if_neg h0, List.append_nil] at HS
        have h0' : ix < 0 := by omega
        clear h0
        rw [← HS.out] at HO
        go_wp2
        go_roundw
        case rel => exact ⟨k + 1, hlt, by go_num, HO.out, hbx2⟩
        case measure => simp [intOf]; omega
    · have HF : Hid (l.take k = l) := List.take_of_length_le (by have := HN.out; omega)
      rw [HF.out] at hown
      have hrd := Lib.hid (Rd.of_own hown)
      clear hown
      go_wp2
      go_ret
      exact ⟨_, rfl, hrd.out, hbr.out⟩
set_option maxRecDepth 100000 in
set_option maxHeartbeats 4000000 in
theorem rindex_any_common (nm nm' : ByteArray) (v v' : Value) (l m : List Pt) (w : World) (h : PtsR w v l) (h' : PtsR w v' m) (hlen : l.length ≤ 4398046511104) :
    Calls Tryd.prog 24 #[.agg #[.string nm, v], .agg #[.string nm', v']] w (ComPost l m w) := by
  obtain ⟨i0, hi, hz0, hz1, hz2⟩ := info_parts infoString
  obtain ⟨A, c, rfl, hc, hm⟩ := h.form
  obtain ⟨A', c', rfl, hc', hm'⟩ := h'.form
  unfold maxLen at hm hm'
  have H := Lib.hid h
  have H' := Lib.hid h'
  clear h h'
  obtain ⟨n, hnn⟩ : ∃ n, l.length = n := ⟨_, rfl⟩
  rw [hnn] at hc H hlen
  rw [hnn]
  have HN := Lib.hid hnn
  clear hnn
  go_enter Tryd.func24, Tryd.ntmps24
  go_wp2
  go_loopw [5, 11] (fun v i wr => ∃ k : Nat, k ≤ n ∧ i = .int .i64 k ∧ wr.ownsRow (w.heap.size + 2) 9 1 v (comL (l.take k) m).length (scells (comL (l.take k) m)) ∧ Below (w.heap.size + 2) ((w.alloc (.cells #[.string nm, .slice A n c] 24)).alloc (.cells #[.string nm', .slice A' m.length c'] 24)) wr) (fun _ i _ => n - (intOf i).toNat)
  case atStart => exact ⟨0, Nat.zero_le _, rfl, World.ownsRow_nil _ _ _ _, Below.refl _ _⟩
  case round =>
    obtain ⟨k, hk, rfl, hown, hbx⟩ := hrel
    have hbr : Hid (Below w.heap.size w wr) := (((Below.refl w.heap.size w).alloc (Nat.le_refl _) _).alloc (by simp) _).trans (hbx.mono (by omega))
    by_cases hlt : k < n
    · have hkl : k < l.length := by rw [HN.out]; exact hlt
      obtain ⟨g, o, cx, hA, hg, h0, h1, h2, h3⟩ := H.out.at_ hkl
      rw [HN.out] at hA
      simp only [Value.slice.injEq, true_and] at hA
      obtain ⟨rfl, rfl⟩ := hA
      have k0 := (hbr.out.cell (p := ⟨g, o + k * 4, none⟩) hg).trans h0
      have k1 := (hbr.out.cell (p := ⟨g, o + k * 4 + 1, none⟩) hg).trans h1
      have k2 := (hbr.out.cell (p := ⟨g, o + k * 4 + 2, none⟩) hg).trans h2
      have k3 := (hbr.out.cell (p := ⟨g, o + k * 4 + 3, none⟩) hg).trans h3
      have HS := Lib.hid (com_step (m := m) hkl)
      have hcl := com_len l m k
      obtain ⟨p, hp⟩ : ∃ p, l[k] = p := ⟨_, rfl⟩
      rw [hp] at k0 k1 k2 k3 HS
      obtain ⟨done, hd⟩ : ∃ d, comL (l.take k) m = d := ⟨_, rfl⟩
      rw [hd] at HS hown hcl
      clear h0 h1 h2 h3 hp hkl hd hg
      have bs : w.heap.size + 2 ≤ wr.heap.size := by have := hbx.size; simp at this; omega
      have b0 : wr.cell? ⟨w.heap.size + 1, 0, none⟩ = some (.string nm') := (hbx.cell (p := ⟨w.heap.size + 1, 0, none⟩) (by simp)).trans (by simp [go_sem])
      have b1 : wr.cell? ⟨w.heap.size + 1, 1, none⟩ = some (.slice A' m.length c') := (hbx.cell (p := ⟨w.heap.size + 1, 1, none⟩) (by simp)).trans (by simp [go_sem])
      have bs1 : w.heap.size + 1 < wr.heap.size := by omega
      have hba := Lib.hid (hbr.out.alloc (by omega) (.cells #[.string (sb p.ref), .int .i64 p.lo, .int .i64 p.hi, .int .u8 (p.dir : Int)] 34))
      have hbxa := Lib.hid (hbx.alloc bs (.cells #[.string (sb p.ref), .int .i64 p.lo, .int .i64 p.hi, .int .u8 (p.dir : Int)] 34))
      go_wp2_with fail
      refine (rindex_any nm' (sb p.ref) _ m _ (H'.out.below hba.out)).mono ?_
      rintro e1 w2 ⟨rfl, hb2⟩
      rw [bl_sb]
      have hbx2 := hbxa.out.trans (hb2.mono (by simp; omega))
      have HO := Lib.hid (own_below (hown.alloc _) hb2)
      have y0 : wr.heap.size < w2.heap.size := Nat.lt_of_lt_of_le (by simp) hb2.size
      have y1 : w2.cell? ⟨wr.heap.size, 0, none⟩ = some (.string (sb p.ref)) := (hb2.cell (p := ⟨wr.heap.size, 0, none⟩) (by simp)).trans (by simp [go_sem])
      obtain ⟨ix, hix⟩ : ∃ ix, idxOf m p.ref = ix := ⟨_, rfl⟩
      rw [hix] at HS ⊢
      clear hix hb2 hba hbxa hown k0 k1 k2 k3 b0 b1
      by_cases h0 : 0 ≤ ix
      · rw [if_pos h0] at HS
        have hown := HO.out
        go_wp2_with (at_builtin; refine wpList_append_own _ rfl (.tmp 20) (.tmp 23) 40 rfl (w.heap.size + 2) 9 i0 (.string ⟨#[]⟩) 1 16 Tryd.underlying40 hi hz0 hz1 hz2 rfl (by decide) _ _ _ rfl (hown.alloc _) ⟨w2.heap.size, 0, none⟩ 1 1 [.string (sb p.ref)] rfl rfl (cell_one_new _ _ _) (by intro u hu; simp at hu; rcases hu with rfl; rfl) (by unfold maxLen; omega) (by omega) (by simp; omega) ?_)
        intro v1 w3 hown' hgrow _
        have hlt3 : ∀ j, u5.ownBlock = some j → w.heap.size + 2 ≤ j := fun j hj => (hown.lt j hj).1
        have hbx3 := Lib.hid ((hbx2.alloc (by omega) _).grown hgrow (by simp; omega) hlt3)
        have HO3 : Hid (w3.ownsRow (w.heap.size + 2) 9 1 v1 (comL (l.take (k + 1)) m).length (scells (comL (l.take (k + 1)) m))) := by
          unfold Hid
          rw [HS.out, scells_snoc, List.length_append]
          exact hown'
        clear hown hown' hgrow hlt3
        go_wp2
        go_roundw
        case rel => exact ⟨k + 1, hlt, by go_num, HO3.out, hbx3.out⟩
        case measure => simp [intOf]; omega
      · rw [if_neg h0, List.append_nil] at HS
        have h0' : ix < 0 := by omega
        clear h0
        rw [← HS.out] at HO
        go_wp2
        go_roundw
        case rel => exact ⟨k + 1, hlt, by go_num, HO.out, hbx2⟩
        case measure => simp [intOf]; omega
    · have HF : Hid (l.take k = l) := List.take_of_length_le (by have := HN.out; omega)
      rw [HF.out] at hown
      have hrd := Lib.hid (Rd.of_own hown)
      clear hown
      go_wp2
      go_ret
      exact ⟨_, rfl, hrd.out, hbr.out⟩
end Go.Proofs.YtkopjbjkfeopfaaDoor
