/-
  Lists of fixes in memory; contracts: the fixes with an identifier, the first fix with a reference; on both sides.
-/
import Derived.Test.YtgmehlgfilpleaaGreatDoorMG03
namespace Go.Proofs.YtgmehlgfilpleaaGreatDoor
open Go.RowKit
set_option linter.unusedVariables false
set_option linter.unusedSimpArgs false

theorem infoFix : (Tryz.prog.info? 38).map (fun i => (i.zero, i.size, i.bytes)) = some (some (.agg #[.string ⟨#[]⟩, .string ⟨#[]⟩, .int .u8 0, .int .i64 0, .int .i64 0, .int .i64 0, .int .i64 0]), 7, 72) := by kernel_rfl
theorem fxcells_len (l : List Fx) : (fxcells l).length = l.length * 7 := by
  induction l with
  | nil => rfl
  | cons p l ih =>
    show (fxc p ++ fxcells l).length = _
    rw [List.length_append, ih, List.length_cons]
    show 7 + _ = _
    omega
theorem fxcells_at (l : List Fx) : ∀ (k : Nat) (h : k < l.length) (j : Nat), j < 7 → (fxcells l)[k * 7 + j]? = (fxc l[k])[j]? := by
  induction l with
  | nil => intro k h; simp at h
  | cons p l ih =>
    intro k h j hj
    show (fxc p ++ fxcells l)[k * 7 + j]? = _
    have hl : (fxc p).length = 7 := rfl
    cases k with
    | zero => rw [Nat.zero_mul, Nat.zero_add, List.getElem?_append_left (by omega)]; rfl
    | succ k =>
      rw [List.getElem?_append_right (by omega), hl, show (k + 1) * 7 + j - 7 = k * 7 + j by omega]
      exact ih k (by simpa using h) j hj
/-- fixes in memory; their strings fit -/
def FxsR (w : World) (v : Value) (l : List Fx) : Prop := Rd w 7 v l.length (fxcells l)
theorem FxsR.below {w w' : World} {v : Value} {l : List Fx} (h : FxsR w v l) (hb : Below w.heap.size w w') : FxsR w' v l := Rd.below h hb
theorem FxsR.form {w : World} {v : Value} {l : List Fx} (h : FxsR w v l) : ∃ A c, v = .slice A l.length c ∧ l.length ≤ c ∧ c ≤ 9223372036854775807 := by
  obtain ⟨A, c, hv, hc, hm⟩ := Rd.form h
  unfold maxLen at hm
  exact ⟨A, c, hv, hc, by omega⟩
structure FxAt (w : World) (g o : Nat) (f : Fx) : Prop where
  c0 : w.cell? ⟨g, o, none⟩ = some (.string (sb f.id))
  c1 : w.cell? ⟨g, o + 1, none⟩ = some (.string (sb f.rg))
  c2 : w.cell? ⟨g, o + 2, none⟩ = some (.int .u8 (f.kd : Int))
  c3 : w.cell? ⟨g, o + 3, none⟩ = some (.int .i64 f.lat)
  c4 : w.cell? ⟨g, o + 4, none⟩ = some (.int .i64 f.lon)
  c5 : w.cell? ⟨g, o + 5, none⟩ = some (.int .i64 f.el)
  c6 : w.cell? ⟨g, o + 6, none⟩ = some (.int .i64 f.ra)
theorem FxsR.at_ {w : World} {v : Value} {l : List Fx} (h : FxsR w v l) {k : Nat} (hk : k < l.length) : ∃ g o c, v = .slice (some ⟨g, o, none⟩) l.length c ∧ g < w.heap.size ∧ FxAt w g (o + k * 7) l[k] := by
  obtain ⟨hl, A, c, hv, hc, hm, hr⟩ := h
  obtain ⟨g, o, rfl, hg, hx⟩ := hr (by omega)
  have key : ∀ j u, j < 7 → (fxc l[k])[j]? = some u → w.cell? ⟨g, o + k * 7 + j, none⟩ = some u := fun j u hj hu => by
    have := hx (k * 7 + j) u (by rw [fxcells_at l k hk j hj]; exact hu)
    rwa [← Nat.add_assoc] at this
  exact ⟨g, o, c, hv, hg, key 0 _ (by omega) rfl, key 1 _ (by omega) rfl, key 2 _ (by omega) rfl, key 3 _ (by omega) rfl, key 4 _ (by omega) rfl, key 5 _ (by omega) rfl, key 6 _ (by omega) rfl⟩
theorem FxAt.below {w w' : World} {g o : Nat} {f : Fx} (h : FxAt w g o f) (hg : g < w.heap.size) {B : Nat} (hb : Below B w w') (hB : g < B) : FxAt w' g o f := by
  have k : ∀ j, w'.cell? ⟨g, j, none⟩ = w.cell? ⟨g, j, none⟩ := fun j => hb.cell (p := ⟨g, j, none⟩) hB
  exact ⟨(k _).trans h.c0, (k _).trans h.c1, (k _).trans h.c2, (k _).trans h.c3, (k _).trans h.c4, (k _).trans h.c5, (k _).trans h.c6⟩
theorem str_eq' {l : List UInt8} {t : ByteArray} : ((sb l).toList == t.toList) = decide (l = bl t) := by rw [bl_toList, bl_toList, bl_sb, Bool.eq_iff_iff, beq_iff_eq, decide_eq_true_iff]
/-- the strings of fixes are no longer than a machine holds -/
def SzL (l : List Fx) : Prop := ∀ f ∈ l, f.id.length ≤ 1000000000000000 ∧ f.rg.length ≤ 1000000000000000
theorem SzL.take {l : List Fx} (h : SzL l) (n : Nat) : SzL (l.take n) := fun f hf => h f (List.mem_of_mem_take hf)
theorem SzL.get {l : List Fx} (h : SzL l) {k : Nat} (hk : k < l.length) : l[k].id.length ≤ 1000000000000000 ∧ l[k].rg.length ≤ 1000000000000000 := h _ (List.getElem_mem hk)
def findL (l : List Fx) (t : List UInt8) : Option Fx := l.find? fun f => decide (fxRef f = t)
theorem find_miss {l : List Fx} {t : List UInt8} {k : Nat} (hk : k < l.length) (h : findL (l.take k) t = none) (he : fxRef l[k] ≠ t) : findL (l.take (k + 1)) t = none := by
  unfold findL at h ⊢
  rw [List.take_succ_eq_append_getElem hk, List.find?_append, h]
  simp [he]
theorem find_hit {l : List Fx} {t : List UInt8} {k : Nat} (hk : k < l.length) (h : findL (l.take k) t = none) (he : fxRef l[k] = t) : findL l t = some l[k] := by
  unfold findL at h ⊢
  have hl : l = l.take k ++ l[k] :: l.drop (k + 1) := by rw [List.getElem_cons_drop, List.take_append_drop]
  generalize l[k] = p at hl he ⊢
  rw [hl, List.find?_append, h]
  simp [he]
def FindPost (o : Option Fx) (w : World) (e : Ending) (w' : World) : Prop :=
  e = .returned (.tuple #[.agg #[.string (sb (o.getD fx0).id), .string (sb (o.getD fx0).rg), .int .u8 ((o.getD fx0).kd : Int), .int .i64 (o.getD fx0).lat, .int .i64 (o.getD fx0).lon, .int .i64 (o.getD fx0).el, .int .i64 (o.getD fx0).ra], .bool o.isSome]) ∧ Below w.heap.size w w'
theorem FindPost.some {o : Option Fx} {w w' : World} {p : Fx} (h : o = some p) (hb : Below w.heap.size w w') :
    FindPost o w (.returned (.tuple #[.agg #[.string (sb p.id), .string (sb p.rg), .int .u8 (p.kd : Int), .int .i64 p.lat, .int .i64 p.lon, .int .i64 p.el, .int .i64 p.ra], .bool true])) w' := by subst h; exact ⟨rfl, hb⟩
theorem FindPost.none {o : Option Fx} {w w' : World} (h : o = none) (hb : Below w.heap.size w w') :
    FindPost o w (.returned (.tuple #[.agg #[.string ⟨#[]⟩, .string ⟨#[]⟩, .int .u8 0, .int .i64 0, .int .i64 0, .int .i64 0, .int .i64 0], .bool false])) w' := by subst h; exact ⟨rfl, hb⟩
set_option maxHeartbeats 1000000 in
theorem find_test (f : Fx) (t : ByteArray) (b : Nat) (w : World) (hi : f.id.length ≤ 1000000000000000) (hr : f.rg.length ≤ 1000000000000000) (hc : w.cell? ⟨b, 0, none⟩ = some (.string t)) (hbw : b < w.heap.size) :
    Calls Tryz.prog 155 #[.agg #[.string (sb f.id), .string (sb f.rg), .int .u8 (f.kd : Int), .int .i64 f.lat, .int .i64 f.lon, .int .i64 f.el, .int .i64 f.ra], .pointer (some ⟨b, 0, none⟩)] w fun e w' => e = .returned (.bool (decide (fxRef f = bl t))) ∧ Below w.heap.size w w' := by
  have hlt : b < w.heap.size + 1 := by omega
  have HE : Hid (((sb (fxRef f)).toList == t.toList) = decide (fxRef f = bl t)) := str_eq'
  have HC := Lib.hid hc
  clear hc
  have hc : (w.alloc (.cells #[.string (sb f.id), .string (sb f.rg), .int .u8 (f.kd : Int), .int .i64 f.lat, .int .i64 f.lon, .int .i64 f.el, .int .i64 f.ra] 38)).cell? ⟨b, 0, none⟩ = some (.string t) := (((Below.refl _ w).alloc (Nat.le_refl _) _).cell (p := ⟨b, 0, none⟩) hbw).trans HC.out
  go_enter Tryz.func155, Tryz.ntmps155
  go_wp2_with fail
  go_region_with (go_at_call 14; refine (fixRef_any f _ hi hr).mono ?_; rintro e w2 ⟨rfl, hb⟩; have HB := Lib.hid (Below.trans ((Below.refl w.heap.size w).alloc (Nat.le_refl _) (.cells #[.string (sb f.id), .string (sb f.rg), .int .u8 (f.kd : Int), .int .i64 f.lat, .int .i64 f.lon, .int .i64 f.el, .int .i64 f.ra] 38)).drew (Below.mono hb (by simp))); have c1 := (HB.out.cell (p := ⟨b, 0, none⟩) hbw).trans HC.out; clear hb)
  all_goals
    go_wp2
    go_ret
    exact ⟨ret_bool HE.out, HB.out⟩
def IdxPost (l : List Fx) (t : List UInt8) (w : World) (e : Ending) (w' : World) : Prop :=
  ∃ i : Int, e = .returned (.int .i64 i) ∧ ((i = -1 ∧ findL l t = none) ∨ ∃ (k : Nat) (h : k < l.length), i = k ∧ findL l t = some l[k]) ∧ Below w.heap.size w w'
set_option maxRecDepth 100000 in
set_option maxHeartbeats 2000000 in
theorem index_fix (v : Value) (l : List Fx) (t : ByteArray) (b : Nat) (w : World) (h : FxsR w v l) (hz : SzL l) (hc : w.cell? ⟨b, 0, none⟩ = some (.string t)) (hbw : b < w.heap.size) (hN : l.length ≤ 1000000000000) :
    Calls Tryz.prog 154 #[v, .func (.func 155) #[] #[.pointer (some ⟨b, 0, none⟩)]] w (IdxPost l (bl t) w) := by
  obtain ⟨A, c, rfl, hcc, hm⟩ := h.form
  have H := Lib.hid h
  have HC := Lib.hid hc
  obtain ⟨n, hn⟩ : ∃ n, l.length = n := ⟨_, rfl⟩
  have HN := Lib.hid hn
  rw [hn] at hcc H hN ⊢
  clear h hn hc
  go_enter Tryz.func154, Tryz.ntmps154
  go_wp2_with fail
  go_loopw [5, 8] (fun _ i wr => ∃ k : Nat, k ≤ n ∧ i = .int .i64 k ∧ Hid (findL (l.take k) (bl t) = none) ∧ Below w.heap.size w wr) (fun _ i _ => n - (intOf i).toNat)
  case atStart => exact ⟨0, Nat.zero_le _, rfl, rfl, Below.refl _ _⟩
  case round =>
    obtain ⟨k, hk, rfl, hno, hbr⟩ := hrel
    by_cases hlt : k < n
    · have hkl : k < l.length := by rw [HN.out]; exact hlt
      obtain ⟨g, o, c', hA, hg, hat⟩ := H.out.at_ hkl
      rw [HN.out] at hA
      simp only [Value.slice.injEq, true_and] at hA
      obtain ⟨rfl, rfl⟩ := hA
      have hs := hz.get hkl
      have HM := Lib.hid (find_miss (t := bl t) hkl hno.out)
      have HH := Lib.hid (find_hit (t := bl t) hkl hno.out)
      obtain ⟨p, hp⟩ : ∃ p, l[k] = p := ⟨_, rfl⟩
      have HP := Lib.hid hp
      rw [hp] at hat HM HH hs
      obtain ⟨c0, c1, c2, c3, c4, c5, c6⟩ := hat.below hg hbr hg
      have hcr : Hid (wr.cell? ⟨b, 0, none⟩ = some (.string t)) := (hbr.cell (p := ⟨b, 0, none⟩) hbw).trans HC.out
      have hbr' : b < wr.heap.size := Nat.lt_of_lt_of_le hbw hbr.size
      clear hat hp
      by_cases he : fxRef p = bl t
      · have HR : Hid (decide (fxRef p = bl t) = true) := decide_eq_true he
        have HH2 := Lib.hid (HH.out he)
        clear he
        go_wp2_with fail
        refine (find_test p t b _ hs.1 hs.2 hcr.out hbr').mono ?_
        rintro e w2 ⟨rfl, hb2⟩
        rw [HR.out]
        have HB2 := Lib.hid (hbr.trans (hb2.mono hbr.size))
        clear hb2
        go_wp2
        go_ret
        exact ⟨_, rfl, .inr ⟨k, hkl, rfl, by rw [HH2.out, HP.out]⟩, HB2.out⟩
      · have HR : Hid (decide (fxRef p = bl t) = false) := decide_eq_false he
        have HM2 := Lib.hid (HM.out he)
        clear he
        go_wp2_with fail
        refine (find_test p t b _ hs.1 hs.2 hcr.out hbr').mono ?_
        rintro e w2 ⟨rfl, hb2⟩
        rw [HR.out]
        have HB2 := hbr.trans (hb2.mono hbr.size)
        clear hb2
        go_wp2
        go_roundw
        case rel => exact ⟨k + 1, hlt, by go_num, HM2.out, HB2⟩
        case measure => simp [intOf]; omega
    · have hkn : l.take k = l := List.take_of_length_le (by have := HN.out; omega)
      have HNO : Hid (findL l (bl t) = none) := by have := hno.out; rwa [hkn] at this
      clear hkn hno
      go_wp2
      go_ret
      exact ⟨_, rfl, .inl ⟨rfl, HNO.out⟩, hbr⟩
set_option maxRecDepth 100000 in
set_option maxHeartbeats 2000000 in
theorem find_any (v : Value) (l : List Fx) (t : ByteArray) (w : World) (h : FxsR w v l) (hz : SzL l) (hN : l.length ≤ 1000000000000) :
    Calls Tryz.prog 73 #[v, .string t] w (FindPost (findL l (bl t)) w) := by
  have K1 : Hid (Below w.heap.size w ((w.alloc (.cells #[.string t] 9)).alloc (.cells #[.string ⟨#[]⟩, .string ⟨#[]⟩, .int .u8 0, .int .i64 0, .int .i64 0, .int .i64 0, .int .i64 0] 38))) := ((Below.refl _ _).alloc (Nat.le_refl _) _).alloc (by simp) _
  have H1 := Lib.hid (h.below K1.out)
  have B1 : Hid (FxBox ((w.alloc (.cells #[.string t] 9)).alloc (.cells #[.string ⟨#[]⟩, .string ⟨#[]⟩, .int .u8 0, .int .i64 0, .int .i64 0, .int .i64 0, .int .i64 0] 38)) (w.heap.size + 1) fx0) := by
    have := heap_alloc_new (w.alloc (.cells #[.string t] 9)) (.cells #[.string ⟨#[]⟩, .string ⟨#[]⟩, .int .u8 0, .int .i64 0, .int .i64 0, .int .i64 0, .int .i64 0] 38)
    rw [World.size_alloc] at this
    exact this
  have C1 : Hid (((w.alloc (.cells #[.string t] 9)).alloc (.cells #[.string ⟨#[]⟩, .string ⟨#[]⟩, .int .u8 0, .int .i64 0, .int .i64 0, .int .i64 0, .int .i64 0] 38)).cell? ⟨w.heap.size, 0, none⟩ = some (.string t)) := by
    have h1 := heap_alloc_new w (.cells #[.string t] 9)
    have h2 := (((Below.refl _ (w.alloc (.cells #[.string t] 9))).alloc (Nat.le_refl _) (.cells #[.string ⟨#[]⟩, .string ⟨#[]⟩, .int .u8 0, .int .i64 0, .int .i64 0, .int .i64 0, .int .i64 0] 38)).cell (p := ⟨w.heap.size, 0, none⟩) (by simp))
    exact h2.trans (blkCell' h1 0 rfl)
  obtain ⟨A, c, hv, hcc, hm⟩ := h.form
  have HV := Lib.hid hv
  clear h hv
  go_enter Tryz.func73, Tryz.ntmps73
  go_wp2_with fail
  refine (index_fix v l t w.heap.size _ H1.out hz C1.out (by simp; omega) hN).mono ?_
  rintro e w2 ⟨i, rfl, hi, hb2⟩
  have B2 := B1.out.below hb2
  have HB2 := Lib.hid (K1.out.trans (hb2.mono (by simp; omega)))
  obtain ⟨c0, c1, c2, c3, c4, c5, c6⟩ := B2.cells
  have f0 := frozen_of_row w2 (w.heap.size + 1) 0 _ _ B2
  have f1 := frozen_of_row w2 (w.heap.size + 1) 1 _ _ B2
  have f2 := frozen_of_row w2 (w.heap.size + 1) 2 _ _ B2
  have f3 := frozen_of_row w2 (w.heap.size + 1) 3 _ _ B2
  have f4 := frozen_of_row w2 (w.heap.size + 1) 4 _ _ B2
  have f5 := frozen_of_row w2 (w.heap.size + 1) 5 _ _ B2
  have f6 := frozen_of_row w2 (w.heap.size + 1) 6 _ _ B2
  have hsz := lt_heap B2
  rcases hi with ⟨rfl, hno⟩ | ⟨k, hk, rfl, hsome⟩
  · have HNO := Lib.hid hno
    have HR2 := Lib.hid (H1.out.below hb2)
    clear hno hb2 B2
    go_wp2
    exact bodyPost_ret (v := .tuple #[.agg #[.string ⟨#[]⟩, .string ⟨#[]⟩, .int .u8 0, .int .i64 0, .int .i64 0, .int .i64 0, .int .i64 0], .bool false]) (by simp [results, Tryz.results73, go_sem, c0, c1, c2, c3, c4, c5, c6, hsz]) rfl (FindPost.none HNO.out (by repeat (first | with_reducible exact HB2.out | with_reducible refine Below.setCell ?_ (by simp) _ | with_reducible refine Below.drew ?_ | with_reducible refine Below.alloc ?_ (by simp; omega) _)))
  · obtain ⟨g, o, c', hA, hg, hat⟩ := (H1.out.below hb2).at_ hk
    subst hA
    have HS := Lib.hid hsome
    obtain ⟨p, hp⟩ : ∃ p, l[k] = p := ⟨_, rfl⟩
    rw [hp] at hat HS
    obtain ⟨y0, y1, y2, y3, y4, y5, y6⟩ := hat
    obtain ⟨n, hn⟩ : ∃ n, l.length = n := ⟨_, rfl⟩
    rw [hn] at hk hcc ⊢
    have hk1 : (k : Int) < (n : Int) := by omega
    clear hsome hp hn hb2 B2 H1
    go_wp2
    exact bodyPost_ret (v := .tuple #[.agg #[.string (sb p.id), .string (sb p.rg), .int .u8 (p.kd : Int), .int .i64 p.lat, .int .i64 p.lon, .int .i64 p.el, .int .i64 p.ra], .bool true]) (by simp [results, Tryz.results73, go_sem, c0, c1, c2, c3, c4, c5, c6, hsz]) rfl (FindPost.some HS.out (by repeat (first | with_reducible exact HB2.out | with_reducible refine Below.setCell ?_ (by simp) _ | with_reducible refine Below.drew ?_ | with_reducible refine Below.alloc ?_ (by simp; omega) _)))
end Go.Proofs.YtgmehlgfilpleaaGreatDoor
