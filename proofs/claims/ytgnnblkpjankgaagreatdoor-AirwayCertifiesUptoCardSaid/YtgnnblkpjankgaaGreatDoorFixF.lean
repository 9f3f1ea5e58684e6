/-
  Lists of fixes in memory; contracts: the fixes with an identifier, the first fix with a reference; on both sides.
-/
import Derived.Test.YtgnnblkpjankgaaGreatDoorFixRf
namespace Go.Proofs.YtgnnblkpjankgaaGreatDoor
open Go.RowKit
set_option linter.unusedVariables false
set_option linter.unusedSimpArgs false

theorem infoFix : (Tryz.prog.info? 53).map (fun i => (i.zero, i.size, i.bytes)) = some (some (.agg #[.string ⟨#[]⟩, .string ⟨#[]⟩, .int .u8 0, .int .i64 0, .int .i64 0, .int .i64 0, .int .i64 0]), 7, 72) := by kernel_rfl
theorem fxcells_len (l : List Fx) : (fxcells l).length = l.length * 7 := by
  induction l with
  | nil => rfl
  | cons p l ih =>
    show (fxc p ++ fxcells l).length = _
    rw [List.length_append, ih, List.length_cons]
    show 7 + _ = _
    omega
theorem fxcells_snoc (l : List Fx) (p : Fx) : fxcells (l ++ [p]) = fxcells l ++ fxc p := by
  unfold fxcells; rw [List.flatMap_append]; simp
theorem fxcells_at (l : List Fx) : ∀ (k : Nat) (h : k < l.length) (j : Nat), j < 7 → (fxcells l)[k * 7 + j]? = (fxc l[k])[j]? := by
  induction l with
  | nil => intro k h; simp at h
  | cons p l ih =>
    intro k h j hj
    show (fxc p ++ fxcells l)[k * 7 + j]? = _
    have hl : (fxc p).length = 7 := rfl
    cases k with
    | zero => rw [Nat.zero_mul, Nat.zero_add, List.getElem?_append_left (by omega)]; rfl
    | succ k =>
      rw [List.getElem?_append_right (by omega), hl, show (k + 1) * 7 + j - 7 = k * 7 + j by omega]
      exact ih k (by simpa using h) j hj
/-- fixes in memory; their strings fit -/
def FxsR (w : World) (v : Value) (l : List Fx) : Prop := Rd w 7 v l.length (fxcells l)
theorem FxsR.below {w w' : World} {v : Value} {l : List Fx} (h : FxsR w v l) (hb : Below w.heap.size w w') : FxsR w' v l := Rd.below h hb
theorem FxsR.form {w : World} {v : Value} {l : List Fx} (h : FxsR w v l) : ∃ A c, v = .slice A l.length c ∧ l.length ≤ c ∧ c ≤ 9223372036854775807 := by
  obtain ⟨A, c, hv, hc, hm⟩ := Rd.form h
  unfold maxLen at hm
  exact ⟨A, c, hv, hc, by omega⟩
structure FxAt (w : World) (g o : Nat) (f : Fx) : Prop where
  c0 : w.cell? ⟨g, o, none⟩ = some (.string (sb f.id))
  c1 : w.cell? ⟨g, o + 1, none⟩ = some (.string (sb f.rg))
  c2 : w.cell? ⟨g, o + 2, none⟩ = some (.int .u8 (f.kd : Int))
  c3 : w.cell? ⟨g, o + 3, none⟩ = some (.int .i64 f.lat)
  c4 : w.cell? ⟨g, o + 4, none⟩ = some (.int .i64 f.lon)
  c5 : w.cell? ⟨g, o + 5, none⟩ = some (.int .i64 f.el)
  c6 : w.cell? ⟨g, o + 6, none⟩ = some (.int .i64 f.ra)
theorem FxsR.at_ {w : World} {v : Value} {l : List Fx} (h : FxsR w v l) {k : Nat} (hk : k < l.length) : ∃ g o c, v = .slice (some ⟨g, o, none⟩) l.length c ∧ g < w.heap.size ∧ FxAt w g (o + k * 7) l[k] := by
  obtain ⟨hl, A, c, hv, hc, hm, hr⟩ := h
  obtain ⟨g, o, rfl, hg, hx⟩ := hr (by omega)
  have key : ∀ j u, j < 7 → (fxc l[k])[j]? = some u → w.cell? ⟨g, o + k * 7 + j, none⟩ = some u := fun j u hj hu => by
    have := hx (k * 7 + j) u (by rw [fxcells_at l k hk j hj]; exact hu)
    rwa [← Nat.add_assoc] at this
  exact ⟨g, o, c, hv, hg, key 0 _ (by omega) rfl, key 1 _ (by omega) rfl, key 2 _ (by omega) rfl, key 3 _ (by omega) rfl, key 4 _ (by omega) rfl, key 5 _ (by omega) rfl, key 6 _ (by omega) rfl⟩
theorem FxAt.below {w w' : World} {g o : Nat} {f : Fx} (h : FxAt w g o f) (hg : g < w.heap.size) {B : Nat} (hb : Below B w w') (hB : g < B) : FxAt w' g o f := by
  have k : ∀ j, w'.cell? ⟨g, j, none⟩ = w.cell? ⟨g, j, none⟩ := fun j => hb.cell (p := ⟨g, j, none⟩) hB
  exact ⟨(k _).trans h.c0, (k _).trans h.c1, (k _).trans h.c2, (k _).trans h.c3, (k _).trans h.c4, (k _).trans h.c5, (k _).trans h.c6⟩
theorem str_eq' {l : List UInt8} {t : ByteArray} : ((sb l).toList == t.toList) = decide (l = bl t) := by rw [bl_toList, bl_toList, bl_sb, Bool.eq_iff_iff, beq_iff_eq, decide_eq_true_iff]
/-- the fixes with an identifier -/
def matchL (l : List Fx) (t : List UInt8) : List Fx := l.filter fun f => decide (f.id = t)
theorem match_step {l : List Fx} {k : Nat} (t : List UInt8) (h : k < l.length) : matchL (l.take (k + 1)) t = if l[k].id = t then matchL (l.take k) t ++ [l[k]] else matchL (l.take k) t := by
  unfold matchL
  rw [List.take_succ_eq_append_getElem h, List.filter_append]
  by_cases he : l[k].id = t
  · simp [he]
  · simp [he]
theorem match_len (l : List Fx) (t : List UInt8) (k : Nat) : (matchL (l.take k) t).length ≤ k := by
  unfold matchL
  exact Nat.le_trans (List.length_filter_le _ _) (List.length_take_le _ _)
/-- what an append of a fix does to what is owned -/
theorem fix_step {base : Nat} {w0 wr w' : World} {v v' : Value} {done : List Fx} {f : Fx} {o1 o2 : Obj} {n : Nat} (hn : n = done.length)
    (hlt : ∀ k, v.ownBlock = some k → base ≤ k ∧ k < wr.heap.size) (hb : Below base w0 wr) (hown' : w'.ownsRow base 53 7 v' (n + 1) (fxcells done ++ fxc f)) (hg : ((wr.alloc o1).alloc o2).grownBy w' v.ownBlock) (hB : base ≤ wr.heap.size) :
    w'.ownsRow base 53 7 v' (done ++ [f]).length (fxcells (done ++ [f])) ∧ Below base w0 w' := by
  subst hn
  refine ⟨?_, ((hb.alloc hB o1).alloc (by simp; omega) o2).grown hg (by simp; omega) (fun k hk => (hlt k hk).1)⟩
  rw [fxcells_snoc, List.length_append]
  exact hown'
def MatchPost (l : List Fx) (t : List UInt8) (w : World) (e : Ending) (w' : World) : Prop := ∃ v, e = .returned v ∧ FxsR w' v (matchL l t) ∧ Below w.heap.size w w'
def FewPost (l : List Fx) (w : World) (e : Ending) (w' : World) : Prop := ∃ v, e = .returned v ∧ w'.ownsRow w.heap.size 53 7 v l.length (fxcells l) ∧ Below w.heap.size w w'
/-- the strings of fixes are no longer than a machine holds -/
def SzL (l : List Fx) : Prop := ∀ f ∈ l, f.id.length ≤ 1000000000000000 ∧ f.rg.length ≤ 1000000000000000
theorem SzL.take {l : List Fx} (h : SzL l) (n : Nat) : SzL (l.take n) := fun f hf => h f (List.mem_of_mem_take hf)
theorem SzL.get {l : List Fx} (h : SzL l) {k : Nat} (hk : k < l.length) : l[k].id.length ≤ 1000000000000000 ∧ l[k].rg.length ≤ 1000000000000000 := h _ (List.getElem_mem hk)
def findL (l : List Fx) (t : List UInt8) : Option Fx := l.find? fun f => decide (fxRef f = t)
theorem find_miss {l : List Fx} {t : List UInt8} {k : Nat} (hk : k < l.length) (h : findL (l.take k) t = none) (he : fxRef l[k] ≠ t) : findL (l.take (k + 1)) t = none := by
  unfold findL at h ⊢
  rw [List.take_succ_eq_append_getElem hk, List.find?_append, h]
  simp [he]
theorem find_hit {l : List Fx} {t : List UInt8} {k : Nat} (hk : k < l.length) (h : findL (l.take k) t = none) (he : fxRef l[k] = t) : findL l t = some l[k] := by
  unfold findL at h ⊢
  have hl : l = l.take k ++ l[k] :: l.drop (k + 1) := by rw [List.getElem_cons_drop, List.take_append_drop]
  generalize l[k] = p at hl he ⊢
  rw [hl, List.find?_append, h]
  simp [he]
theorem find_self {l : List Fx} {x : Fx} (h : x ∈ l) : ∃ y, findL l (fxRef x) = some y ∧ fxRef y = fxRef x := by
  cases hf : findL l (fxRef x) with
  | none =>
    unfold findL at hf
    rw [List.find?_eq_none] at hf
    exact absurd (decide_eq_true rfl) (hf x h)
  | some y =>
    refine ⟨y, rfl, ?_⟩
    unfold findL at hf
    have := List.find?_some hf
    exact of_decide_eq_true this
theorem find_mem {l : List Fx} {t : List UInt8} {y : Fx} (h : findL l t = some y) : y ∈ l := List.mem_of_find?_eq_some h
def FindPost (o : Option Fx) (w : World) (e : Ending) (w' : World) : Prop :=
  e = .returned (.tuple #[.agg #[.string (sb (o.getD fx0).id), .string (sb (o.getD fx0).rg), .int .u8 ((o.getD fx0).kd : Int), .int .i64 (o.getD fx0).lat, .int .i64 (o.getD fx0).lon, .int .i64 (o.getD fx0).el, .int .i64 (o.getD fx0).ra], .bool o.isSome]) ∧ Below w.heap.size w w'
theorem FindPost.some {o : Option Fx} {w w' : World} {p : Fx} (h : o = some p) (hb : Below w.heap.size w w') :
    FindPost o w (.returned (.tuple #[.agg #[.string (sb p.id), .string (sb p.rg), .int .u8 (p.kd : Int), .int .i64 p.lat, .int .i64 p.lon, .int .i64 p.el, .int .i64 p.ra], .bool true])) w' := by subst h; exact ⟨rfl, hb⟩
theorem FindPost.none {o : Option Fx} {w w' : World} (h : o = none) (hb : Below w.heap.size w w') :
    FindPost o w (.returned (.tuple #[.agg #[.string ⟨#[]⟩, .string ⟨#[]⟩, .int .u8 0, .int .i64 0, .int .i64 0, .int .i64 0, .int .i64 0], .bool false])) w' := by subst h; exact ⟨rfl, hb⟩
set_option maxHeartbeats 1000000 in
theorem find_test (f : Fx) (t : ByteArray) (b : Nat) (w : World) (hi : f.id.length ≤ 1000000000000000) (hr : f.rg.length ≤ 1000000000000000) (hc : w.cell? ⟨b, 0, none⟩ = some (.string t)) (hbw : b < w.heap.size) :
    Calls Tryz.prog 38 #[.agg #[.string (sb f.id), .string (sb f.rg), .int .u8 (f.kd : Int), .int .i64 f.lat, .int .i64 f.lon, .int .i64 f.el, .int .i64 f.ra], .pointer (some ⟨b, 0, none⟩)] w fun e w' => e = .returned (.bool (decide (fxRef f = bl t))) ∧ Below w.heap.size w w' := by
  have hlt : b < w.heap.size + 1 := by omega
  have HE : Hid (((sb (fxRef f)).toList == t.toList) = decide (fxRef f = bl t)) := str_eq'
  have HC := Lib.hid hc
  clear hc
  have hc : (w.alloc (.cells #[.string (sb f.id), .string (sb f.rg), .int .u8 (f.kd : Int), .int .i64 f.lat, .int .i64 f.lon, .int .i64 f.el, .int .i64 f.ra] 53)).cell? ⟨b, 0, none⟩ = some (.string t) := (((Below.refl _ w).alloc (Nat.le_refl _) _).cell (p := ⟨b, 0, none⟩) hbw).trans HC.out
  go_enter Tryz.func38, Tryz.ntmps38
  go_wp2_with fail
  go_region_with (go_at_call 39; refine (fixRef_any f _ hi hr).mono ?_; rintro e w2 ⟨rfl, hb⟩; have HB := Lib.hid (Below.trans ((Below.refl w.heap.size w).alloc (Nat.le_refl _) (.cells #[.string (sb f.id), .string (sb f.rg), .int .u8 (f.kd : Int), .int .i64 f.lat, .int .i64 f.lon, .int .i64 f.el, .int .i64 f.ra] 53)).drew (Below.mono hb (by simp))); have c1 := (HB.out.cell (p := ⟨b, 0, none⟩) hbw).trans HC.out; clear hb)
  all_goals
    go_wp2
    go_ret
    exact ⟨ret_bool HE.out, HB.out⟩
def IdxPost (l : List Fx) (t : List UInt8) (w : World) (e : Ending) (w' : World) : Prop :=
  ∃ i : Int, e = .returned (.int .i64 i) ∧ ((i = -1 ∧ findL l t = none) ∨ ∃ (k : Nat) (h : k < l.length), i = k ∧ findL l t = some l[k]) ∧ Below w.heap.size w w'
set_option maxRecDepth 100000 in
set_option maxHeartbeats 2000000 in
theorem index_fix (v : Value) (l : List Fx) (t : ByteArray) (b : Nat) (w : World) (h : FxsR w v l) (hz : SzL l) (hc : w.cell? ⟨b, 0, none⟩ = some (.string t)) (hbw : b < w.heap.size) (hN : l.length ≤ 1000000000000) :
    Calls Tryz.prog 37 #[v, .func (.func 38) #[] #[.pointer (some ⟨b, 0, none⟩)]] w (IdxPost l (bl t) w) := by
  obtain ⟨A, c, rfl, hcc, hm⟩ := h.form
  have H := Lib.hid h
  have HC := Lib.hid hc
  obtain ⟨n, hn⟩ : ∃ n, l.length = n := ⟨_, rfl⟩
  have HN := Lib.hid hn
  rw [hn] at hcc H hN ⊢
  clear h hn hc
  go_enter Tryz.func37, Tryz.ntmps37
  go_wp2_with fail
  go_loopw [5, 8] (fun _ i wr => ∃ k : Nat, k ≤ n ∧ i = .int .i64 k ∧ Hid (findL (l.take k) (bl t) = none) ∧ Below w.heap.size w wr) (fun _ i _ => n - (intOf i).toNat)
  case atStart => exact ⟨0, Nat.zero_le _, rfl, rfl, Below.refl _ _⟩
  case round =>
    obtain ⟨k, hk, rfl, hno, hbr⟩ := hrel
    by_cases hlt : k < n
    · have hkl : k < l.length := by rw [HN.out]; exact hlt
      obtain ⟨g, o, c', hA, hg, hat⟩ := H.out.at_ hkl
      rw [HN.out] at hA
      simp only [Value.slice.injEq, true_and] at hA
      obtain ⟨rfl, rfl⟩ := hA
      have hs := hz.get hkl
      have HM := Lib.hid (find_miss (t := bl t) hkl hno.out)
      have HH := Lib.hid (find_hit (t := bl t) hkl hno.out)
      obtain ⟨p, hp⟩ : ∃ p, l[k] = p := ⟨_, rfl⟩
      have HP := Lib.hid hp
      rw [hp] at hat HM HH hs
      obtain ⟨c0, c1, c2, c3, c4, c5, c6⟩ := hat.below hg hbr hg
      have hcr : Hid (wr.cell? ⟨b, 0, none⟩ = some (.string t)) := (hbr.cell (p := ⟨b, 0, none⟩) hbw).trans HC.out
      have hbr' : b < wr.heap.size := Nat.lt_of_lt_of_le hbw hbr.size
      clear hat hp
      by_cases he : fxRef p = bl t
      · have HR : Hid (decide (fxRef p = bl t) = true) := decide_eq_true he
        have HH2 := Lib.hid (HH.out he)
        clear he
        go_wp2_with fail
        refine (find_test p t b _ hs.1 hs.2 hcr.out hbr').mono ?_
        rintro e w2 ⟨rfl, hb2⟩
        rw [HR.out]
        have HB2 := Lib.hid (hbr.trans (hb2.mono hbr.size))
        clear hb2
        go_wp2
        go_ret
        exact ⟨_, rfl, .inr ⟨k, hkl, rfl, by rw [HH2.out, HP.out]⟩, HB2.out⟩
      · have HR : Hid (decide (fxRef p = bl t) = false) := decide_eq_false he
        have HM2 := Lib.hid (HM.out he)
        clear he
        go_wp2_with fail
        refine (find_test p t b _ hs.1 hs.2 hcr.out hbr').mono ?_
        rintro e w2 ⟨rfl, hb2⟩
        rw [HR.out]
        have HB2 := hbr.trans (hb2.mono hbr.size)
        clear hb2
        go_wp2
        go_roundw
        case rel => exact ⟨k + 1, hlt, by go_num, HM2.out, HB2⟩
        case measure => simp [intOf]; omega
    · have hkn : l.take k = l := List.take_of_length_le (by have := HN.out; omega)
      have HNO : Hid (findL l (bl t) = none) := by have := hno.out; rwa [hkn] at this
      clear hkn hno
      go_wp2
      go_ret
      exact ⟨_, rfl, .inl ⟨rfl, HNO.out⟩, hbr⟩
set_option maxRecDepth 100000 in
set_option maxHeartbeats 2000000 in
theorem find_any (v : Value) (l : List Fx) (t : ByteArray) (w : World) (h : FxsR w v l) (hz : SzL l) (hN : l.length ≤ 1000000000000) :
    Calls Tryz.prog 14 #[v, .string t] w (FindPost (findL l (bl t)) w) := by
  have K1 : Hid (Below w.heap.size w ((w.alloc (.cells #[.string t] 9)).alloc (.cells #[.string ⟨#[]⟩, .string ⟨#[]⟩, .int .u8 0, .int .i64 0, .int .i64 0, .int .i64 0, .int .i64 0] 53))) := ((Below.refl _ _).alloc (Nat.le_refl _) _).alloc (by simp) _
  have H1 := Lib.hid (h.below K1.out)
  have B1 : Hid (FxBox ((w.alloc (.cells #[.string t] 9)).alloc (.cells #[.string ⟨#[]⟩, .string ⟨#[]⟩, .int .u8 0, .int .i64 0, .int .i64 0, .int .i64 0, .int .i64 0] 53)) (w.heap.size + 1) fx0) := by
    have := heap_alloc_new (w.alloc (.cells #[.string t] 9)) (.cells #[.string ⟨#[]⟩, .string ⟨#[]⟩, .int .u8 0, .int .i64 0, .int .i64 0, .int .i64 0, .int .i64 0] 53)
    rw [World.size_alloc] at this
    exact this
  have C1 : Hid (((w.alloc (.cells #[.string t] 9)).alloc (.cells #[.string ⟨#[]⟩, .string ⟨#[]⟩, .int .u8 0, .int .i64 0, .int .i64 0, .int .i64 0, .int .i64 0] 53)).cell? ⟨w.heap.size, 0, none⟩ = some (.string t)) := by
    have h1 := heap_alloc_new w (.cells #[.string t] 9)
    have h2 := (((Below.refl _ (w.alloc (.cells #[.string t] 9))).alloc (Nat.le_refl _) (.cells #[.string ⟨#[]⟩, .string ⟨#[]⟩, .int .u8 0, .int .i64 0, .int .i64 0, .int .i64 0, .int .i64 0] 53)).cell (p := ⟨w.heap.size, 0, none⟩) (by simp))
    exact h2.trans (blkCell' h1 0 rfl)
  obtain ⟨A, c, hv, hcc, hm⟩ := h.form
  have HV := Lib.hid hv
  clear h hv
  go_enter Tryz.func14, Tryz.ntmps14
  go_wp2_with fail
  refine (index_fix v l t w.heap.size _ H1.out hz C1.out (by simp; omega) hN).mono ?_
  rintro e w2 ⟨i, rfl, hi, hb2⟩
  have B2 := B1.out.below hb2
  have HB2 := Lib.hid (K1.out.trans (hb2.mono (by simp; omega)))
  obtain ⟨c0, c1, c2, c3, c4, c5, c6⟩ := B2.cells
  have f0 := frozen_of_row w2 (w.heap.size + 1) 0 _ _ B2
  have f1 := frozen_of_row w2 (w.heap.size + 1) 1 _ _ B2
  have f2 := frozen_of_row w2 (w.heap.size + 1) 2 _ _ B2
  have f3 := frozen_of_row w2 (w.heap.size + 1) 3 _ _ B2
  have f4 := frozen_of_row w2 (w.heap.size + 1) 4 _ _ B2
  have f5 := frozen_of_row w2 (w.heap.size + 1) 5 _ _ B2
  have f6 := frozen_of_row w2 (w.heap.size + 1) 6 _ _ B2
  have hsz := lt_heap B2
  rcases hi with ⟨rfl, hno⟩ | ⟨k, hk, rfl, hsome⟩
  · have HNO := Lib.hid hno
    have HR2 := Lib.hid (H1.out.below hb2)
    clear hno hb2 B2
    go_wp2
    exact bodyPost_ret (v := .tuple #[.agg #[.string ⟨#[]⟩, .string ⟨#[]⟩, .int .u8 0, .int .i64 0, .int .i64 0, .int .i64 0, .int .i64 0], .bool false]) (by simp [results, Tryz.results14, go_sem, c0, c1, c2, c3, c4, c5, c6, hsz]) rfl (FindPost.none HNO.out (by repeat (first | with_reducible exact HB2.out | with_reducible refine Below.setCell ?_ (by simp) _ | with_reducible refine Below.drew ?_ | with_reducible refine Below.alloc ?_ (by simp; omega) _)))
  · obtain ⟨g, o, c', hA, hg, hat⟩ := (H1.out.below hb2).at_ hk
    subst hA
    have HS := Lib.hid hsome
    obtain ⟨p, hp⟩ : ∃ p, l[k] = p := ⟨_, rfl⟩
    rw [hp] at hat HS
    obtain ⟨y0, y1, y2, y3, y4, y5, y6⟩ := hat
    obtain ⟨n, hn⟩ : ∃ n, l.length = n := ⟨_, rfl⟩
    rw [hn] at hk hcc ⊢
    have hk1 : (k : Int) < (n : Int) := by omega
    clear hsome hp hn hb2 B2 H1
    go_wp2
    exact bodyPost_ret (v := .tuple #[.agg #[.string (sb p.id), .string (sb p.rg), .int .u8 (p.kd : Int), .int .i64 p.lat, .int .i64 p.lon, .int .i64 p.el, .int .i64 p.ra], .bool true]) (by simp [results, Tryz.results14, go_sem, c0, c1, c2, c3, c4, c5, c6, hsz]) rfl (FindPost.some HS.out (by repeat (first | with_reducible exact HB2.out | with_reducible refine Below.setCell ?_ (by simp) _ | with_reducible refine Below.drew ?_ | with_reducible refine Below.alloc ?_ (by simp; omega) _)))
set_option maxRecDepth 100000 in
set_option maxHeartbeats 2000000 in
theorem rfind_any (v : Value) (l : List Fx) (t : ByteArray) (w : World) (h : FxsR w v l) (hz : SzL l) (hN : l.length ≤ 1000000000000) :
    Calls Tryz.prog 57 #[v, .string t] w (FindPost (findL l (bl t)) w) := by
  have K1 : Hid (Below w.heap.size w (w.alloc (.cells #[.string ⟨#[]⟩, .string ⟨#[]⟩, .int .u8 0, .int .i64 0, .int .i64 0, .int .i64 0, .int .i64 0] 53))) := (Below.refl _ _).alloc (Nat.le_refl _) _
  have B1 : Hid (FxBox (w.alloc (.cells #[.string ⟨#[]⟩, .string ⟨#[]⟩, .int .u8 0, .int .i64 0, .int .i64 0, .int .i64 0, .int .i64 0] 53)) w.heap.size fx0) := heap_alloc_new w _
  obtain ⟨A, c, rfl, hcc, hm⟩ := h.form
  have H := Lib.hid h
  obtain ⟨n, hn⟩ : ∃ n, l.length = n := ⟨_, rfl⟩
  have HN := Lib.hid hn
  rw [hn] at hcc H hN ⊢
  clear h hn
  go_enter Tryz.func57, Tryz.ntmps57
  go_wp2_with fail
  go_loopw [10] (fun i wr => ∃ k : Nat, k ≤ n ∧ i = .int .i64 k ∧ Hid (findL (l.take k) (bl t) = none) ∧ Below w.heap.size w wr ∧ FxBox wr w.heap.size fx0) (fun i _ => n - (intOf i).toNat)
  case atStart => exact ⟨0, Nat.zero_le _, rfl, rfl, K1.out, B1.out⟩
  case round =>
    obtain ⟨k, hk, rfl, hno, hbr, hbx⟩ := hrel
    have hbw : w.heap.size < wr.heap.size := lt_heap hbx
    by_cases hlt : k < n
    · have hkl : k < l.length := by rw [HN.out]; exact hlt
      obtain ⟨g, o, c', hA, hg, hat⟩ := H.out.at_ hkl
      rw [HN.out] at hA
      simp only [Value.slice.injEq, true_and] at hA
      obtain ⟨rfl, rfl⟩ := hA
      have hs := hz.get hkl
      have HM := Lib.hid (find_miss (t := bl t) hkl hno.out)
      have HH := Lib.hid (find_hit (t := bl t) hkl hno.out)
      obtain ⟨p, hp⟩ : ∃ p, l[k] = p := ⟨_, rfl⟩
      have HP := Lib.hid hp
      rw [hp] at hat HM HH hs
      obtain ⟨c0, c1, c2, c3, c4, c5, c6⟩ := hat.below hg hbr hg
      have hgw : g < wr.heap.size := Nat.lt_of_lt_of_le hg hbr.size
      have hk1 : (k : Int) < (n : Int) := by omega
      have X1 : Hid (FxBox (wr.alloc (.cells #[.string (sb p.id), .string (sb p.rg), .int .u8 (p.kd : Int), .int .i64 p.lat, .int .i64 p.lon, .int .i64 p.el, .int .i64 p.ra] 53)) wr.heap.size p) := fxBox_new wr p
      have X0 : Hid (FxBox (wr.alloc (.cells #[.string (sb p.id), .string (sb p.rg), .int .u8 (p.kd : Int), .int .i64 p.lat, .int .i64 p.lon, .int .i64 p.el, .int .i64 p.ra] 53)) w.heap.size fx0) := hbx.below ((Below.refl _ _).alloc (Nat.le_refl _) _)
      have XB : Hid (Below w.heap.size w (wr.alloc (.cells #[.string (sb p.id), .string (sb p.rg), .int .u8 (p.kd : Int), .int .i64 p.lat, .int .i64 p.lon, .int .i64 p.el, .int .i64 p.ra] 53))) := hbr.alloc hbr.size _
      clear hat hp hbx
      by_cases he : fxRef p = bl t
      · have HR : ((sb (fxRef p)).toList == t.toList) = true := by rw [str_eq']; exact decide_eq_true he
        have HH2 := Lib.hid (HH.out he)
        clear he
        go_wp2_with fail
        refine (rfixRef_any p _ hs.1 hs.2).mono ?_
        rintro e w2 ⟨rfl, hb2⟩
        have B2 := X0.out.below hb2
        have HB2 := Lib.hid (XB.out.trans (hb2.mono XB.out.size))
        obtain ⟨y0, y1, y2, y3, y4, y5, y6⟩ := (X1.out.below hb2).cells
        have hsz := lt_heap B2
        have hsz2 := lt_heap (X1.out.below hb2)
        have f0 := frozen_of_row w2 w.heap.size 0 _ _ B2
        have f1 := frozen_of_row w2 w.heap.size 1 _ _ B2
        have f2 := frozen_of_row w2 w.heap.size 2 _ _ B2
        have f3 := frozen_of_row w2 w.heap.size 3 _ _ B2
        have f4 := frozen_of_row w2 w.heap.size 4 _ _ B2
        have f5 := frozen_of_row w2 w.heap.size 5 _ _ B2
        have f6 := frozen_of_row w2 w.heap.size 6 _ _ B2
        obtain ⟨z0, z1, z2, z3, z4, z5, z6⟩ := B2.cells
        clear hb2 B2 c0 c1 c2 c3 c4 c5 c6
        go_wp2
        exact bodyPost_ret (v := .tuple #[.agg #[.string (sb p.id), .string (sb p.rg), .int .u8 (p.kd : Int), .int .i64 p.lat, .int .i64 p.lon, .int .i64 p.el, .int .i64 p.ra], .bool true]) (by simp [results, Tryz.results57, go_sem, z0, z1, z2, z3, z4, z5, z6, hsz]) rfl (FindPost.some (by rw [HH2.out]) (by repeat (first | with_reducible exact HB2.out | with_reducible refine Below.setCell ?_ (by simp) _ | with_reducible refine Below.drew ?_ | with_reducible refine Below.alloc ?_ (by simp; omega) _)))
      · have HR : ((sb (fxRef p)).toList == t.toList) = false := by rw [str_eq']; exact decide_eq_false he
        have HM2 := Lib.hid (HM.out he)
        clear he
        go_wp2_with fail
        refine (rfixRef_any p _ hs.1 hs.2).mono ?_
        rintro e w2 ⟨rfl, hb2⟩
        have B2 := X0.out.below hb2
        have HB2 := XB.out.trans (hb2.mono XB.out.size)
        clear hb2 c0 c1 c2 c3 c4 c5 c6
        go_wp2
        go_roundw
        case rel => exact ⟨k + 1, hlt, by go_num, HM2.out, HB2, B2⟩
        case measure => simp [intOf]; omega
    · have hkn : l.take k = l := List.take_of_length_le (by have := HN.out; omega)
      have HNO : Hid (findL l (bl t) = none) := by have := hno.out; rwa [hkn] at this
      have f0 := frozen_of_row wr w.heap.size 0 _ _ hbx
      have f1 := frozen_of_row wr w.heap.size 1 _ _ hbx
      have f2 := frozen_of_row wr w.heap.size 2 _ _ hbx
      have f3 := frozen_of_row wr w.heap.size 3 _ _ hbx
      have f4 := frozen_of_row wr w.heap.size 4 _ _ hbx
      have f5 := frozen_of_row wr w.heap.size 5 _ _ hbx
      have f6 := frozen_of_row wr w.heap.size 6 _ _ hbx
      obtain ⟨z0, z1, z2, z3, z4, z5, z6⟩ := hbx.cells
      have HBR := Lib.hid hbr
      clear hkn hno hbx hbr
      go_wp2
      exact bodyPost_ret (v := .tuple #[.agg #[.string ⟨#[]⟩, .string ⟨#[]⟩, .int .u8 0, .int .i64 0, .int .i64 0, .int .i64 0, .int .i64 0], .bool false]) (by simp [results, Tryz.results57, go_sem, z0, z1, z2, z3, z4, z5, z6, hbw]) rfl (FindPost.none HNO.out (by repeat (first | with_reducible exact HBR.out | with_reducible refine Below.setCell ?_ (by simp) _ | with_reducible refine Below.drew ?_ | with_reducible refine Below.alloc ?_ (by simp; omega) _)))
end Go.Proofs.YtgnnblkpjankgaaGreatDoor
