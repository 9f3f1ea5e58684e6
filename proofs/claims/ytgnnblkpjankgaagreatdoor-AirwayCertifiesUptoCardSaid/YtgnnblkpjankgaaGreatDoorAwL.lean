/-
  Lists of airways in memory; the first error of such a list on both sides; the law's comparisons of points and of references.
-/
import Derived.Test.YtgnnblkpjankgaaGreatDoorRAwExp
import Derived.Deep.QuietTactic
import Derived.BigQuiet
namespace Go.Proofs.YtgnnblkpjankgaaGreatDoor
open Go.RowKit
set_option linter.unusedVariables false
set_option linter.unusedSimpArgs false

/-- an airway: its name, its points -/
structure Aw where
  name : List UInt8
  pts : List Pt
/-- airways in memory -/
def AwsR (w : World) (v : Value) (L : List Aw) : Prop :=
  ∃ xs : List Value, Rd w 2 v L.length xs ∧ ∀ k (h : k < L.length), ∃ pv, xs[k * 2]? = some (.string (sb L[k].name)) ∧ xs[k * 2 + 1]? = some pv ∧ PtsR w pv L[k].pts ∧ L[k].name.length ≤ maxLen
theorem AwsR.form {w : World} {v : Value} {L : List Aw} (h : AwsR w v L) : ∃ A c, v = .slice A L.length c ∧ L.length ≤ c ∧ c ≤ maxLen := by
  obtain ⟨xs, h1, _⟩ := h; exact h1.form
theorem AwsR.below {w w' : World} {v : Value} {L : List Aw} (h : AwsR w v L) (hb : Below w.heap.size w w') : AwsR w' v L := by
  obtain ⟨xs, h1, h2⟩ := h
  exact ⟨xs, h1.below hb, fun k hk => by obtain ⟨pv, x0, x1, x2, x3⟩ := h2 k hk; exact ⟨pv, x0, x1, x2.below hb, x3⟩⟩
theorem AwsR.at_ {w : World} {v : Value} {L : List Aw} (h : AwsR w v L) {k : Nat} (hk : k < L.length) :
    ∃ g o c pv, v = .slice (some ⟨g, o, none⟩) L.length c ∧ g < w.heap.size ∧ w.cell? ⟨g, o + k * 2, none⟩ = some (.string (sb L[k].name)) ∧ w.cell? ⟨g, o + k * 2 + 1, none⟩ = some pv ∧ PtsR w pv L[k].pts ∧ L[k].name.length ≤ maxLen := by
  obtain ⟨xs, ⟨hl, A, c, hv, hc, hm, hr⟩, h2⟩ := h
  obtain ⟨g, o, rfl, hg, hx⟩ := hr (by omega)
  obtain ⟨pv, x0, x1, x2, x3⟩ := h2 k hk
  refine ⟨g, o, c, pv, hv, hg, hx _ _ x0, ?_, x2, x3⟩
  have := hx _ _ x1
  rwa [← Nat.add_assoc] at this
def chkLFrom : List Aw → Int
  | [] => 0
  | a :: r => if chkA a.name a.pts = 0 then chkLFrom r else chkA a.name a.pts
def chkL (L : List Aw) : Int := if 60 < L.length then 3 else chkLFrom L
theorem chkL_step {L : List Aw} {k : Nat} (h : k < L.length) : chkLFrom (L.drop k) = if chkA L[k].name L[k].pts = 0 then chkLFrom (L.drop (k + 1)) else chkA L[k].name L[k].pts := by
  rw [List.drop_eq_getElem_cons h]; rfl
theorem chkL_end {L : List Aw} {k : Nat} (h : L.length ≤ k) : chkLFrom (L.drop k) = 0 := by
  rw [List.drop_eq_nil_of_le h]; rfl
set_option maxRecDepth 100000 in
set_option maxHeartbeats 4000000 in
theorem checkL_any (v : Value) (L : List Aw) (w : World) (h : AwsR w v L) :
    Calls Tryz.prog 36 #[v] w fun e w' => e = .returned (.int .i64 (chkL L)) ∧ Below w.heap.size w w' := by
  obtain ⟨A, c, rfl, hc, hm⟩ := h.form
  unfold maxLen at hm
  have H := Lib.hid h
  clear h
  obtain ⟨n, hnn⟩ : ∃ n, L.length = n := ⟨_, rfl⟩
  rw [hnn] at hc H
  rw [hnn]
  have HN := Lib.hid hnn
  obtain ⟨x, hx⟩ : ∃ x, chkL L = x := ⟨_, rfl⟩
  rw [hx]
  have HX := Lib.hid hx
  clear hnn hx
  rcases Nat.lt_or_ge 60 n with h60 | h60
  · have h60' : (60 : Int) < (n : Int) := by omega
    go_enter Tryz.func36, Tryz.ntmps36
    go_wp2
    go_ret
    exact ⟨ret_int (by rw [← HX.out]; unfold chkL; rw [if_pos (by rw [HN.out]; exact h60)]), Below.refl _ _⟩
  · have h60' : (n : Int) ≤ 60 := by omega
    have HX2 : Hid (chkLFrom (L.drop 0) = x) := by
      unfold Hid; rw [← HX.out, List.drop_zero]; unfold chkL; rw [if_neg (by rw [HN.out]; omega)]
    go_enter Tryz.func36, Tryz.ntmps36
    go_wp2
    go_loopw [11] (fun i wr => ∃ k : Nat, k ≤ n ∧ i = .int .i64 k ∧ Hid (chkLFrom (L.drop k) = x) ∧ Below w.heap.size w wr) (fun i _ => n - (intOf i).toNat)
    case atStart => exact ⟨0, Nat.zero_le _, rfl, HX2.out, Below.refl _ _⟩
    case round =>
      obtain ⟨k, hk, rfl, hix, hbr⟩ := hrel
      by_cases hlt : k < n
      · have hkl : k < L.length := by rw [HN.out]; exact hlt
        have HS := Lib.hid (chkL_step hkl)
        obtain ⟨g, o, c', pv, hA, hg, x0, x1, x2, x3⟩ := H.out.at_ hkl
        rw [HN.out] at hA
        simp only [Value.slice.injEq, true_and] at hA
        obtain ⟨rfl, rfl⟩ := hA
        have k0 := (hbr.cell (p := ⟨g, o + k * 2, none⟩) hg).trans x0
        have k1 := (hbr.cell (p := ⟨g, o + k * 2 + 1, none⟩) hg).trans x1
        have P := Lib.hid (x2.below hbr)
        obtain ⟨a, ha⟩ : ∃ a, L[k] = a := ⟨_, rfl⟩
        rw [ha] at k0 HS P x3
        clear x0 x1 x2 ha hkl hg
        obtain ⟨Ap, cp, rfl, _, _⟩ := P.out.form
        have hba := Lib.hid (hbr.alloc hbr.size (.cells #[.string (sb a.name), .slice Ap a.pts.length cp] 63))
        go_wp2_with fail
        refine (check_any (sb a.name) _ a.pts _ (P.out.below ((Below.refl _ _).alloc (Nat.le_refl _) _)) x3).mono ?_
        rintro e1 w2 ⟨rfl, hb2⟩
        rw [bl_sb]
        have hbn := hba.out.trans (hb2.mono (by simp; have := hbr.size; omega))
        obtain ⟨er, he⟩ : ∃ er, chkA a.name a.pts = er := ⟨_, rfl⟩
        rw [he] at HS ⊢
        clear he k0 k1 hb2 hba
        by_cases h0 : er = 0
        · have e1 : (er != 0) = false := by rw [h0]; rfl
          have H0 := Lib.hid h0
          clear h0
          go_wp2
          go_roundw
          case rel => exact ⟨k + 1, hlt, by go_num, by unfold Hid; rw [← hix.out, HS.out, if_pos H0.out], hbn⟩
          case measure => simp [intOf]; omega
        · have e1 : (er != 0) = true := bne_iff_ne.2 h0
          have H0 := Lib.hid h0
          clear h0
          go_wp2
          go_ret
          exact ⟨ret_int (by rw [← hix.out, HS.out, if_neg H0.out]), hbn⟩
      · have HE := Lib.hid (chkL_end (L := L) (k := k) (by have := HN.out; omega))
        go_wp2
        go_ret
        exact ⟨ret_int (by rw [← hix.out, HE.out]), hbr⟩
set_option maxRecDepth 100000 in
set_option maxHeartbeats 4000000 in
theorem rcheckL_any (v : Value) (L : List Aw) (w : World) (h : AwsR w v L) :
    Calls Tryz.prog 56 #[v] w fun e w' => e = .returned (.int .i64 (chkL L)) ∧ Below w.heap.size w w' := by
  obtain ⟨A, c, rfl, hc, hm⟩ := h.form
  unfold maxLen at hm
  have H := Lib.hid h
  clear h
  obtain ⟨n, hnn⟩ : ∃ n, L.length = n := ⟨_, rfl⟩
  rw [hnn] at hc H
  rw [hnn]
  have HN := Lib.hid hnn
  obtain ⟨x, hx⟩ : ∃ x, chkL L = x := ⟨_, rfl⟩
  rw [hx]
  have HX := Lib.hid hx
  clear hnn hx
  rcases Nat.lt_or_ge 60 n with h60 | h60
  · have h60' : (60 : Int) < (n : Int) := by omega
    go_enter Tryz.func56, Tryz.ntmps56
    go_wp2
    go_ret
    exact ⟨ret_int (by rw [← HX.out]; unfold chkL; rw [if_pos (by rw [HN.out]; exact h60)]), Below.refl _ _⟩
  · have h60' : (n : Int) ≤ 60 := by omega
    have HX2 : Hid (chkLFrom (L.drop 0) = x) := by
      unfold Hid; rw [← HX.out, List.drop_zero]; unfold chkL; rw [if_neg (by rw [HN.out]; omega)]
    go_enter Tryz.func56, Tryz.ntmps56
    go_wp2
    go_loopw [11] (fun i wr => ∃ k : Nat, k ≤ n ∧ i = .int .i64 k ∧ Hid (chkLFrom (L.drop k) = x) ∧ Below w.heap.size w wr) (fun i _ => n - (intOf i).toNat)
    case atStart => exact ⟨0, Nat.zero_le _, rfl, HX2.out, Below.refl _ _⟩
    case round =>
      obtain ⟨k, hk, rfl, hix, hbr⟩ := hrel
      by_cases hlt : k < n
      · have hkl : k < L.length := by rw [HN.out]; exact hlt
        have HS := Lib.hid (chkL_step hkl)
        obtain ⟨g, o, c', pv, hA, hg, x0, x1, x2, x3⟩ := H.out.at_ hkl
        rw [HN.out] at hA
        simp only [Value.slice.injEq, true_and] at hA
        obtain ⟨rfl, rfl⟩ := hA
        have k0 := (hbr.cell (p := ⟨g, o + k * 2, none⟩) hg).trans x0
        have k1 := (hbr.cell (p := ⟨g, o + k * 2 + 1, none⟩) hg).trans x1
        have P := Lib.hid (x2.below hbr)
        obtain ⟨a, ha⟩ : ∃ a, L[k] = a := ⟨_, rfl⟩
        rw [ha] at k0 HS P x3
        clear x0 x1 x2 ha hkl hg
        obtain ⟨Ap, cp, rfl, _, _⟩ := P.out.form
        have hba := Lib.hid (hbr.alloc hbr.size (.cells #[.string (sb a.name), .slice Ap a.pts.length cp] 63))
        go_wp2_with fail
        refine (rcheck_any (sb a.name) _ a.pts _ (P.out.below ((Below.refl _ _).alloc (Nat.le_refl _) _)) x3).mono ?_
        rintro e1 w2 ⟨rfl, hb2⟩
        rw [bl_sb]
        have hbn := hba.out.trans (hb2.mono (by simp; have := hbr.size; omega))
        obtain ⟨er, he⟩ : ∃ er, chkA a.name a.pts = er := ⟨_, rfl⟩
        rw [he] at HS ⊢
        clear he k0 k1 hb2 hba
        by_cases h0 : er = 0
        · have e1 : (er != 0) = false := by rw [h0]; rfl
          have H0 := Lib.hid h0
          clear h0
          go_wp2
          go_roundw
          case rel => exact ⟨k + 1, hlt, by go_num, by unfold Hid; rw [← hix.out, HS.out, if_pos H0.out], hbn⟩
          case measure => simp [intOf]; omega
        · have e1 : (er != 0) = true := bne_iff_ne.2 h0
          have H0 := Lib.hid h0
          clear h0
          go_wp2
          go_ret
          exact ⟨ret_int (by rw [← hix.out, HS.out, if_neg H0.out]), hbn⟩
      · have HE := Lib.hid (chkL_end (L := L) (k := k) (by have := HN.out; omega))
        go_wp2
        go_ret
        exact ⟨ret_int (by rw [← hix.out, HE.out]), hbr⟩

/-! ### the law's comparisons -/
theorem StrR.form {w : World} {v : Value} {l : List (List UInt8)} (h : StrR w v l) : ∃ A c, v = .slice A l.length c ∧ l.length ≤ c ∧ c ≤ maxLen := Rd.form h
theorem StrR.at_ {w : World} {v : Value} {l : List (List UInt8)} (h : StrR w v l) {k : Nat} (hk : k < l.length) : ∃ g o c, v = .slice (some ⟨g, o, none⟩) l.length c ∧ g < w.heap.size ∧ w.cell? ⟨g, o + k, none⟩ = some (.string (sb l[k])) := by
  obtain ⟨hl, A, c, hv, hc, hm, hr⟩ := h
  obtain ⟨g, o, rfl, hg, hx⟩ := hr (by omega)
  exact ⟨g, o, c, hv, hg, hx k _ (by unfold rfcells; rw [List.getElem?_map, List.getElem?_eq_getElem hk]; rfl)⟩
end Go.Proofs.YtgnnblkpjankgaaGreatDoor
