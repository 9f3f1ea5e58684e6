/-
  Contracts: record.texts, record.Write and the reference's Join, Write: the texts of fields with blanks between them, and records as lines.
-/
import Derived.Test.YtlgajjlnbcbijaaGreatDoorSame
import Derived.Test.YtlgajjlnbcbijaaGreatDoorShelf
namespace Go.Proofs.YtlgajjlnbcbijaaGreatDoor
open Go.RowKit
set_option linter.unusedVariables false
set_option linter.unusedSimpArgs false

/-- the texts of fields in memory -/
def TxR (w : World) (v : Value) (ts : List (List UInt8)) : Prop :=
  ∃ xs : List Value, Rd w 2 v ts.length xs ∧ ∀ k (h : k < ts.length), xs[k * 2]? = some (.string (sb ts[k])) ∧ ∃ n : Int, xs[k * 2 + 1]? = some (.int .i64 n)
theorem TxR.form {w : World} {v : Value} {ts : List (List UInt8)} (h : TxR w v ts) : ∃ A c, v = .slice A ts.length c ∧ ts.length ≤ c ∧ c ≤ maxLen := by
  obtain ⟨xs, h1, _⟩ := h; exact h1.form
theorem TxR.below {w w' : World} {v : Value} {ts : List (List UInt8)} (h : TxR w v ts) (hb : Below w.heap.size w w') : TxR w' v ts := by
  obtain ⟨xs, h1, h2⟩ := h; exact ⟨xs, h1.below hb, h2⟩
theorem TxR.at_ {w : World} {v : Value} {ts : List (List UInt8)} (h : TxR w v ts) {k : Nat} (hk : k < ts.length) :
    ∃ g o c, ∃ n : Int, v = .slice (some ⟨g, o, none⟩) ts.length c ∧ g < w.heap.size ∧ w.cell? ⟨g, o + k * 2, none⟩ = some (.string (sb ts[k])) ∧ w.cell? ⟨g, o + k * 2 + 1, none⟩ = some (.int .i64 n) := by
  obtain ⟨xs, h1, h2⟩ := h
  obtain ⟨g, o, c, a, b, hv, _, hg, x1, x2, y1, y2⟩ := h1.two hk
  obtain ⟨z1, n, z2⟩ := h2 k hk
  rw [z1, Option.some.injEq] at x1
  rw [z2, Option.some.injEq] at x2
  subst x1 x2
  exact ⟨g, o, c, n, hv, hg, y1, y2⟩
theorem TxR.of_flds {w : World} {v : Value} {l : List Fld} (h : Rd w 2 v l.length (fcells l)) : TxR w v (l.map (·.1)) := by
  refine ⟨fcells l, by rw [List.length_map]; exact h, fun k hk => ?_⟩
  rw [List.length_map] at hk
  rw [List.getElem_map]
  exact ⟨(fcells_at l k hk).1, _, (fcells_at l k hk).2⟩
/-- records in memory, of which the fields' texts count -/
def LnR (w : World) (v : Value) (L : List (List (List UInt8))) : Prop :=
  ∃ xs : List Value, Rd w 2 v L.length xs ∧ ∀ k (h : k < L.length), ∃ (n : Int) (fv : Value), xs[k * 2]? = some (.int .i64 n) ∧ xs[k * 2 + 1]? = some fv ∧ TxR w fv L[k]
theorem LnR.form {w : World} {v : Value} {L : List (List (List UInt8))} (h : LnR w v L) : ∃ A c, v = .slice A L.length c ∧ L.length ≤ c ∧ c ≤ maxLen := by
  obtain ⟨xs, h1, _⟩ := h; exact h1.form
theorem LnR.below {w w' : World} {v : Value} {L : List (List (List UInt8))} (h : LnR w v L) (hb : Below w.heap.size w w') : LnR w' v L := by
  obtain ⟨xs, h1, h2⟩ := h
  exact ⟨xs, h1.below hb, fun k hk => by obtain ⟨n, fv, x0, x1, x2⟩ := h2 k hk; exact ⟨n, fv, x0, x1, x2.below hb⟩⟩
theorem LnR.at_ {w : World} {v : Value} {L : List (List (List UInt8))} (h : LnR w v L) {k : Nat} (hk : k < L.length) :
    ∃ g o c, ∃ (a : Int) (fv : Value), v = .slice (some ⟨g, o, none⟩) L.length c ∧ g < w.heap.size ∧ w.cell? ⟨g, o + k * 2, none⟩ = some (.int .i64 a) ∧ w.cell? ⟨g, o + k * 2 + 1, none⟩ = some fv ∧ TxR w fv L[k] := by
  obtain ⟨xs, h1, h2⟩ := h
  obtain ⟨g, o, c, a, b, hv, _, hg, x1, x2, y1, y2⟩ := h1.two hk
  obtain ⟨n, fv, z0, z1, z2⟩ := h2 k hk
  rw [z0, Option.some.injEq] at x1
  rw [z1, Option.some.injEq] at x2
  subst x1 x2
  exact ⟨g, o, c, n, fv, hv, hg, y1, y2, z2⟩
theorem LnR.of_recs {w : World} {v : Value} {rs : List Rec} (h : RecsR w v rs) : LnR w v (rs.map fun r => r.2.map (·.1)) := by
  obtain ⟨L, h1, h2, h3⟩ := h
  have hl : L.length = rs.length := by rw [← h1, List.length_map]
  refine ⟨rcells L, by rw [List.length_map]; exact h2.1, fun k hk => ?_⟩
  rw [List.length_map] at hk
  have hkL : k < L.length := by omega
  have e : L[k].1 = rs[k] := by simp only [← h1, List.getElem_map]
  refine ⟨_, _, (rcells_at L k hkL).1, (rcells_at L k hkL).2, ?_⟩
  rw [List.getElem_map, ← e]
  exact TxR.of_flds (h3 _ (List.getElem_mem hkL)).1

def joinL (ts : List (List UInt8)) : List UInt8 := Lib.join ts [32]
theorem joinL_nil : joinL [] = [] := rfl
theorem joinTail_snoc (sep x : List UInt8) (r : List (List UInt8)) : Lib.joinTail sep (r ++ [x]) = Lib.joinTail sep r ++ (sep ++ x) := by
  unfold Lib.joinTail; rw [List.map_append, List.flatten_append]; simp
theorem joinL_snoc (l : List (List UInt8)) (x : List UInt8) : joinL (l ++ [x]) = if l = [] then x else joinL l ++ 32 :: x := by
  cases l with
  | nil => rw [if_pos rfl]; exact Lib.join_one x [32]
  | cons y r =>
    rw [if_neg (by simp)]
    unfold joinL
    rw [List.cons_append, Lib.join_cons, Lib.join_cons, joinTail_snoc, List.append_assoc]; rfl
theorem joinL_take_len (l : List (List UInt8)) (k : Nat) : (joinL (l.take k)).length ≤ (joinL l).length := by
  have key : ∀ a b : List (List UInt8), (joinL a).length ≤ (joinL (a ++ b)).length := by
    intro a b
    cases a with
    | nil => exact Nat.zero_le _
    | cons x a =>
      unfold joinL
      rw [List.cons_append, Lib.join_cons, Lib.join_cons, List.length_append, List.length_append]
      unfold Lib.joinTail
      rw [List.map_append, List.flatten_append, List.length_append]
      omega
  have := key (l.take k) (l.drop k)
  rwa [List.take_append_drop] at this
def writeL (L : List (List (List UInt8))) : List UInt8 := L.flatMap fun ts => if ts = [] then [] else joinL ts ++ [10]
theorem writeL_snoc (L : List (List (List UInt8))) (ts : List (List UInt8)) : writeL (L ++ [ts]) = writeL L ++ if ts = [] then [] else joinL ts ++ [10] := by
  unfold writeL; rw [List.flatMap_append]; simp
theorem writeL_take_len (L : List (List (List UInt8))) (k : Nat) : (writeL (L.take k)).length ≤ (writeL L).length := by
  have h : (writeL (L.take k ++ L.drop k)).length = (writeL L).length := by rw [List.take_append_drop]
  have e : writeL (L.take k ++ L.drop k) = writeL (L.take k) ++ writeL (L.drop k) := by unfold writeL; rw [List.flatMap_append]
  rw [e, List.length_append] at h
  omega
theorem take_at {α : Type} {l : List α} {k : Nat} (h : k < l.length) : l.take (k + 1) = l.take k ++ [l[k]] := List.take_succ_eq_append_getElem h
theorem writeL_at {L : List (List (List UInt8))} {k : Nat} (h : k < L.length) : writeL (L.take (k + 1)) = writeL (L.take k) ++ if L[k] = [] then [] else joinL L[k] ++ [10] := by
  rw [take_at h, writeL_snoc]
theorem writeL_room {L : List (List (List UInt8))} {k : Nat} (h : k < L.length) (h0 : L[k] ≠ []) : (writeL (L.take k)).length + (joinL L[k]).length + 1 ≤ (writeL L).length := by
  have := writeL_take_len L (k + 1)
  rw [writeL_at h, if_neg h0] at this
  simp only [List.length_append, List.length_cons, List.length_nil] at this
  omega
theorem cell_one_new2 (w : World) (o : Obj) (a : Value) (t : TypeId) : ∀ j u, [a][j]? = some u → ((w.alloc o).alloc (.cells #[a] t)).cell? ((⟨w.heap.size + 1, 0, none⟩ : Addr).add j) = some u := by
  have h := cell_one_new (w.alloc o) a t
  have e : (w.alloc o).heap.size = w.heap.size + 1 := by simp
  rw [e] at h
  exact h
theorem join_call (v : Value) (ts : List (List UInt8)) (w : World) (h : Rd w 1 v ts.length (scells ts)) (hL : (joinL ts).length ≤ 1100000000) (hn : ts.length ≤ 1100000000) :
    Calls Tryz.prog 178 #[v, .string ⟨#[32]⟩] w (StrPost (joinL ts) w) := by
  obtain ⟨hl, A, c, rfl, hc, hm, hx⟩ := h
  rcases Nat.eq_zero_or_pos ts.length with h0 | h0
  · have : ts = [] := List.eq_nil_of_length_eq_zero h0
    subst this
    refine (Tryz.strings_Join_none A c ⟨#[32]⟩ w).mono ?_
    rintro e w' ⟨rfl, rfl⟩
    exact ⟨_, rfl, rfl, Below.refl _ _⟩
  · obtain ⟨g, o, rfl, hg, hcell⟩ := hx h0
    have e1 : (ts.map sb).length = ts.length := List.length_map _
    have e2 : (ts.map sb).map (fun s : ByteArray => s.data.toList) = ts := by rw [List.map_map]; exact List.map_id' ts
    have h2 := Tryz.strings_Join g o c (ts.map sb) ⟨#[32]⟩ w (fun j x hj => hcell j _ (by
        unfold scells
        rw [List.getElem?_map] at hj ⊢
        cases hq : ts[j]? with
        | none => rw [hq] at hj; cases hj
        | some y => rw [hq] at hj; simp only [Option.map_some, Option.some.injEq] at hj ⊢; rw [hj])) hg (by rw [e1]; omega) (by rw [e1]; exact hc) (by rw [e2]; exact Nat.le_trans hL (by decide))
    rw [e1, e2] at h2
    refine h2.mono ?_
    rintro e w' ⟨rfl, hb⟩
    exact ⟨_, rfl, rfl, hb⟩

set_option maxRecDepth 100000 in
set_option maxHeartbeats 4000000 in
theorem texts_any (v : Value) (ts : List (List UInt8)) (w : World) (h : TxR w v ts) (hn : ts.length ≤ 1048576) (hL : (joinL ts).length ≤ 1100000000) :
    Calls Tryz.prog 116 #[v] w (StrPost (joinL ts) w) := by
  obtain ⟨i0, hi, hz0, hz1, hz2⟩ := info_parts infoString
  obtain ⟨A, c, rfl, hc, hm⟩ := h.form
  have H := Lib.hid h
  clear h
  obtain ⟨n, hnn⟩ : ∃ n, ts.length = n := ⟨_, rfl⟩
  rw [hnn] at hn hc H
  rw [hnn]
  have HN := Lib.hid hnn
  clear hnn
  go_enter Tryz.func116, Tryz.ntmps116
  go_wp2
  go_loopw [3, 8] (fun v i wr => ∃ k : Nat, k ≤ n ∧ i = .int .i64 k ∧ wr.ownsRow w.heap.size 9 1 v (ts.take k).length (scells (ts.take k)) ∧ Below w.heap.size w wr) (fun _ i _ => n - (intOf i).toNat)
  case atStart => exact ⟨0, Nat.zero_le _, rfl, World.ownsRow_nil _ _ _ _, Below.refl _ _⟩
  case round =>
    obtain ⟨k, hk, rfl, hown, hbr⟩ := hrel
    by_cases hlt : k < n
    · have hkl : k < ts.length := by rw [HN.out]; exact hlt
      obtain ⟨g, o, c', b, hA, hg, hc1, hc2⟩ := H.out.at_ hkl
      rw [HN.out] at hA
      simp only [Value.slice.injEq, true_and] at hA
      obtain ⟨rfl, rfl⟩ := hA
      have k1 := (hbr.cell (p := ⟨g, o + k * 2, none⟩) hg).trans hc1
      have k2 := (hbr.cell (p := ⟨g, o + k * 2 + 1, none⟩) hg).trans hc2
      obtain ⟨t, ht⟩ : ∃ t, sb ts[k] = t := ⟨_, rfl⟩
      rw [ht] at k1
      have HT : Hid (ts[k] = bl t) := by unfold Hid; rw [← ht, bl_sb]
      have HS : Hid (ts.take (k + 1) = ts.take k ++ [bl t]) := by unfold Hid; rw [take_at hkl, HT.out]
      have hlk : (ts.take k).length ≤ k := List.length_take_le _ _
      clear hc1 hc2 ht HT hkl hg
      obtain ⟨done, hdone⟩ : ∃ d, ts.take k = d := ⟨_, rfl⟩
      rw [hdone] at hown hlk HS
      clear hdone
      go_wp2_with (at_builtin; refine wpList_append_own _ rfl (.tmp 12) (.tmp 15) 100 rfl w.heap.size 9 i0 (.string ⟨#[]⟩) 1 16 Tryz.underlying100 hi hz0 hz1 hz2 rfl (by decide) _ _ _ rfl ((hown.alloc _).alloc _) ⟨wr.heap.size + 1, 0, none⟩ 1 1 [.string t] rfl rfl (cell_one_new2 _ _ _ _) (by intro u hu; simp at hu; rcases hu with rfl; rfl) (by unfold maxLen; omega) (by omega) (by have := hbr.size; simp; omega) ?_)
      intro v' w' hown' hgrow _
      have R := string_step (hown.alloc _).lt (hbr.alloc hbr.size _) hown' hgrow (by have := hbr.size; simp; omega)
      clear hown hown' hgrow
      rw [← HS.out] at R
      go_wp2
      go_roundw
      case rel => exact ⟨k + 1, hlt, by go_num, R.1, R.2⟩
      case measure => simp [intOf]; omega
    · have HF : Hid (ts.take k = ts) := List.take_of_length_le (by have := HN.out; omega)
      rw [HF.out] at hown
      have hrd := Rd.of_own hown
      clear hown
      go_wp2_with fail
      refine (join_call _ ts _ hrd hL (by have := HN.out; omega)).mono ?_
      rintro e w' ⟨t, rfl, ht, hb⟩
      go_wp2
      go_ret
      exact ⟨_, rfl, ht, Below.then_ hbr hb⟩

set_option maxRecDepth 100000 in
set_option maxHeartbeats 2000000 in
theorem rjoinT_any (v : Value) (ts : List (List UInt8)) (w : World) (h : TxR w v ts) (hL : (joinL ts).length ≤ 1100000000) :
    Calls Tryz.prog 170 #[v] w (StrPost (joinL ts) w) := by
  obtain ⟨A, c, rfl, hc, hm⟩ := h.form
  unfold maxLen at hm
  have H := Lib.hid h
  clear h
  obtain ⟨n, hnn⟩ : ∃ n, ts.length = n := ⟨_, rfl⟩
  rw [hnn] at hc H
  rw [hnn]
  have HN := Lib.hid hnn
  clear hnn
  go_enter Tryz.func170, Tryz.ntmps170
  go_wp2
  go_loopw [3, 8] (fun v i wr => ∃ (k : Nat) (t : ByteArray), k ≤ n ∧ i = .int .i64 k ∧ v = .string t ∧ Hid (bl t = joinL (ts.take k)) ∧ Below w.heap.size w wr) (fun _ i _ => n - (intOf i).toNat)
  case atStart => exact ⟨0, _, Nat.zero_le _, rfl, rfl, rfl, Below.refl _ _⟩
  case round =>
    obtain ⟨k, t, hk, rfl, rfl, ht, hbr⟩ := hrel
    by_cases hlt : k < n
    · have hkl : k < ts.length := by rw [HN.out]; exact hlt
      obtain ⟨g, o, c', b, hA, hg, hc1, hc2⟩ := H.out.at_ hkl
      rw [HN.out] at hA
      simp only [Value.slice.injEq, true_and] at hA
      obtain ⟨rfl, rfl⟩ := hA
      have k1 := (hbr.cell (p := ⟨g, o + k * 2, none⟩) hg).trans hc1
      have k2 := (hbr.cell (p := ⟨g, o + k * 2 + 1, none⟩) hg).trans hc2
      obtain ⟨x, hx⟩ : ∃ x, sb ts[k] = x := ⟨_, rfl⟩
      rw [hx] at k1
      have HT : Hid (ts[k] = bl x) := by unfold Hid; rw [← hx, bl_sb]
      have HS : Hid (joinL (ts.take (k + 1)) = if ts.take k = [] then bl x else joinL (ts.take k) ++ 32 :: bl x) := by unfold Hid; rw [take_at hkl, HT.out, joinL_snoc]
      have hz0 : t.size ≤ 1100000000 := by have h1 := joinL_take_len ts k; rw [← ht.out, bl_len] at h1; omega
      have hz1 : (if ts.take k = [] then bl x else joinL (ts.take k) ++ 32 :: bl x).length ≤ 1100000000 := by have h1 := joinL_take_len ts (k + 1); rw [HS.out] at h1; omega
      have hz2 : x.size ≤ 1100000000 := by
        have h2 : (bl x).length ≤ (if ts.take k = [] then bl x else joinL (ts.take k) ++ 32 :: bl x).length := by
          split
          · exact Nat.le_refl _
          · rw [List.length_append, List.length_cons]; omega
        rw [bl_len] at h2; omega
      clear hc1 hc2 hx hg HT hz1
      have hk0 : (k = 0 ∧ (k : Int) ≤ 0 ∧ Hid (ts.take k = [])) ∨ (0 < (k : Int) ∧ Hid (¬ ts.take k = [])) := by
        rcases Nat.eq_zero_or_pos k with h | h
        · exact .inl ⟨h, by omega, by unfold Hid; rw [h]; rfl⟩
        · refine .inr ⟨by omega, ?_⟩
          intro e
          have := congrArg List.length e
          rw [List.length_take, List.length_nil] at this
          omega
      clear hkl
      have hbn := hbr.alloc hbr.size (.cells #[.string x, .int .i64 b] 158)
      rcases hk0 with ⟨hk0, hk1, hk2⟩ | ⟨hk1, hk2⟩
      · have HK := Lib.hid hk0
        clear hk0
        go_wp2
        go_roundw
        case rel => exact ⟨k + 1, t ++ x, hlt, by go_num, rfl, by unfold Hid; rw [HS.out, if_pos hk2.out, bl_append, ht.out, hk2.out]; rfl, hbn⟩
        case measure => simp [intOf]; omega
      · go_wp2
        go_roundw
        case rel => exact ⟨k + 1, t ++ ⟨#[32]⟩ ++ x, hlt, by go_num, rfl, by unfold Hid; rw [HS.out, if_neg hk2.out, bl_append, bl_append, ht.out, List.append_assoc]; rfl, hbn⟩
        case measure => simp [intOf]; omega
    · have HF : Hid (ts.take k = ts) := List.take_of_length_le (by have := HN.out; omega)
      rw [HF.out] at ht
      go_wp2
      go_ret
      exact ⟨_, rfl, ht, hbr⟩

end Go.Proofs.YtlgajjlnbcbijaaGreatDoor
