/-
  Contract: flightdeckref08.ParseWindow.
-/
import Derived.Test.YtlgajjlnbcbijaaGreatDoorSame
namespace Go.Proofs.YtlgajjlnbcbijaaGreatDoor
open Go.RowKit
set_option linter.unusedVariables false
set_option linter.unusedSimpArgs false

/-- the parts of the text of a window, and which kind it is of -/
def PwParts (l a b : List UInt8) (k : Int) : Prop :=
  (k = 3 ∧ cutAt 58 l = (a, b, true)) ∨ (k ≠ 3 ∧ a = b ∧ (cutAt 58 l).2.2 = false ∧
    ((k = 0 ∧ lastIs 43 l = false ∧ lastIs 45 l = false ∧ a = l) ∨ (k = 1 ∧ lastIs 43 l = true ∧ a = l.dropLast) ∨ (k = 2 ∧ lastIs 43 l = false ∧ lastIs 45 l = true ∧ a = l.dropLast)))
def pwJoin (k : Int) (x y : Option Int) : Option (Int × Int) := match x, y with
  | some x, some y => some (if k = 2 then -200000 else x, if k = 1 then 6000000 else y)
  | _, _ => none
theorem pwJoin_none2 (k : Int) {o2 : Option Int} (o : Option Int) (h : o2 = none) : pwJoin k o o2 = none := by
  subst h; cases o <;> rfl
theorem pwJoin_some (k : Int) {o1 o2 : Option Int} {x y : Int} (h1 : o1 = some x) (h2 : o2 = some y) : pwJoin k o1 o2 = some (if k = 2 then -200000 else x, if k = 1 then 6000000 else y) := by
  subst h1 h2; rfl
theorem pwParts_spec {l a b : List UInt8} {k : Int} (hl : l ≠ [45]) (h : PwParts l a b k) : winSpec l = pwJoin k (altSpec a) (altSpec b) := by
  rcases h with ⟨rfl, h⟩ | ⟨_, rfl, hf, h⟩
  · rw [winSpec_eq hl h]
    unfold winOf pwJoin
    rw [if_pos rfl]
    cases altSpec a <;> cases altSpec b <;> rfl
  · have hc : cutAt 58 l = ((cutAt 58 l).1, (cutAt 58 l).2.1, false) := by rw [← hf]
    rw [winSpec_eq hl hc]
    unfold winOf pwJoin
    rw [if_neg (by decide)]
    rcases h with ⟨rfl, h1, h2, rfl⟩ | ⟨rfl, h1, rfl⟩ | ⟨rfl, h1, h2, rfl⟩
    · rw [h1, h2]
      cases altSpec a <;> rfl
    · rw [h1]
      cases altSpec l.dropLast <;> rfl
    · rw [h1, h2]
      cases altSpec l.dropLast <;> rfl
theorem pwJoin_range {l a b : List UInt8} {k x y : Int} (h : PwParts l a b k) (ha : altSpec a = some x) (hb : altSpec b = some y) (hr : (rangedB x && rangedB y) = false) :
    ∃ lo hi, pwJoin k (altSpec a) (altSpec b) = some (lo, hi) ∧ (rangedB lo && rangedB hi) = false := by
  refine ⟨_, _, by rw [ha, hb]; rfl, ?_⟩
  rcases h with ⟨rfl, h⟩ | ⟨_, rfl, hf, h⟩
  · exact hr
  · rw [ha, Option.some.injEq] at hb
    subst hb
    rw [Bool.and_self] at hr
    rcases h with ⟨rfl, h1, h2, rfl⟩ | ⟨rfl, h1, rfl⟩ | ⟨rfl, h1, h2, rfl⟩
    · simp [hr]
    · simp [hr]
    · simp [hr]
theorem pwJoin_order {l a b : List UInt8} {k x y : Int} (h : PwParts l a b k) (ha : altSpec a = some x) (hb : altSpec b = some y) (hr : y < x) :
    pwJoin k (altSpec a) (altSpec b) = some (x, y) := by
  rcases h with ⟨rfl, h⟩ | ⟨_, rfl, hf, h⟩
  · rw [ha, hb]; rfl
  · rw [ha, Option.some.injEq] at hb
    omega
theorem notin_take_succ {s : ByteArray} {j : Nat} (hj : j < s.size) (hc : ¬ (s[j].toNat : Int) = 58) (h : (58 : UInt8) ∉ (bl s).take j) : (58 : UInt8) ∉ (bl s).take (j + 1) := by
  rw [List.take_succ_eq_append_getElem (show j < (bl s).length from hj), List.mem_append, List.mem_singleton]
  rintro (e | e)
  · exact h e
  · apply hc
    have : (58 : UInt8) = s[j] := e
    rw [← this]; rfl
theorem cut_here {s : ByteArray} {j : Nat} (hj : j < s.size) (hc : (s[j].toNat : Int) = 58) (h : (58 : UInt8) ∉ (bl s).take j) : cutAt 58 (bl s) = (bl (s.extract 0 j), bl (s.extract (j + 1) s.size), true) := by
  have e58 : s[j] = 58 := by apply UInt8.toNat_inj.1; show s[j].toNat = 58; omega
  have h1 : bl s = (bl s).take j ++ (58 : UInt8) :: (bl s).drop (j + 1) := by
    conv => lhs; rw [← List.take_append_drop j (bl s)]
    rw [List.drop_eq_getElem_cons (show j < (bl s).length from hj)]
    exact congrArg (fun c : UInt8 => (bl s).take j ++ c :: (bl s).drop (j + 1)) e58
  rw [bl_take, bl_drop]
  conv => lhs; rw [h1]
  exact cutAt_mid h
theorem lastIs_at {s : ByteArray} {n : Nat} (hn : n < 256) (h : s.size - 1 < s.size) : lastIs (UInt8.ofNat n) (bl s) = ((s[s.size - 1].toNat : Int) == (n : Int)) := by
  unfold lastIs
  rw [List.getLast?_eq_getElem?, bl_len, bl_get? s _ h, Bool.eq_iff_iff, beq_iff_eq, beq_iff_eq, Option.some.injEq, ← u8_eq hn]
  omega
theorem bl_front (s : ByteArray) : bl (s.extract 0 (s.size - 1)) = (bl s).dropLast := by
  rw [bl_take, List.dropLast_eq_take, bl_len]

theorem refRes_cases {s : ByteArray} {n : Int} {form inn : Bool} (h : match altSpec (bl s) with
    | none => form = false
    | some v => form = true ∧ inn = rangedB v ∧ (inn = true → n = v)) : (form = false ∧ Hid (altSpec (bl s) = none)) ∨ (form = true ∧ ∃ v, Hid (altSpec (bl s) = some v) ∧ Hid (inn = rangedB v) ∧ (inn = true → n = v)) := by
  cases h2 : altSpec (bl s) with
  | none => rw [h2] at h; exact .inl ⟨h, rfl⟩
  | some v => rw [h2] at h; exact .inr ⟨h.1, v, rfl, h.2.1, h.2.2⟩

set_option maxHeartbeats 400000 in
theorem rparseWindow_dash (s : ByteArray) (w : World) (hd : (s.toList == [45]) = true) :
    Calls Tryz.prog 168 #[.string s] w (PwPost s w) := by
  have h : Hid (bl s = [45]) := by unfold Hid; rw [bl_toList, beq_iff_eq] at hd; exact hd
  go_enter Tryz.func168, Tryz.ntmps168
  go_wp2
  refine bodyPost_ret (v := .tuple #[.agg #[.int .i64 (-200000), .int .i64 6000000], .int .i64 0]) (by simp [results, Tryz.results168, go_sem]) rfl ?_
  have e : winOut (-200000) 6000000 = bl s := by rw [h.out]; rfl
  have h1 := pw_ok (l := bl s) (a := -200000) (b := 6000000) (by decide) (by decide) (by decide) e
  exact pwPost (o := some (-200000, 6000000)) (by unfold winSpec; rw [if_pos h.out]) h1.1 h1.2.1 h1.2.2 ((Below.refl _ _).alloc (Nat.le_refl _) _)

theorem ranged_ends {n : Int} (h : rangedB n = true) : -200000 ≤ n ∧ n ≤ 6000000 := by unfold rangedB at h; simpa using h
/-- the ways in which the loop over the text of a window ends -/
theorem pw_ways {s : ByteArray} {j : Nat} {kv av bv : Value} (h : (kv = .int .i64 0 ∧ av = .string s ∧ bv = .string s ∧ Hid ((58 : UInt8) ∉ (bl s).take j)) ∨ (∃ a b : ByteArray, kv = .int .i64 3 ∧ av = .string a ∧ bv = .string b ∧ a.size ≤ s.size ∧ b.size ≤ s.size ∧ Hid (cutAt 58 (bl s) = (bl a, bl b, true)))) (hj : s.size ≤ j) :
    (∃ a b : ByteArray, kv = .int .i64 3 ∧ av = .string a ∧ bv = .string b ∧ a.size ≤ s.size ∧ b.size ≤ s.size ∧ Hid (PwParts (bl s) (bl a) (bl b) 3)) ∨
    (kv = .int .i64 0 ∧ av = .string s ∧ bv = .string s ∧ (s.size : Int) ≤ 0 ∧ Hid (PwParts (bl s) (bl s) (bl s) 0)) ∨
    (kv = .int .i64 0 ∧ av = .string s ∧ bv = .string s ∧ (0 : Int) < (s.size : Int) ∧ ∃ hp : s.size - 1 < s.size, ((s[s.size - 1].toNat : Int) == 43) = true ∧ Hid (PwParts (bl s) (bl (s.extract 0 (s.size - 1))) (bl (s.extract 0 (s.size - 1))) 1)) ∨
    (kv = .int .i64 0 ∧ av = .string s ∧ bv = .string s ∧ (0 : Int) < (s.size : Int) ∧ ∃ hp : s.size - 1 < s.size, ((s[s.size - 1].toNat : Int) == 43) = false ∧ ((s[s.size - 1].toNat : Int) == 45) = true ∧ Hid (PwParts (bl s) (bl (s.extract 0 (s.size - 1))) (bl (s.extract 0 (s.size - 1))) 2)) ∨
    (kv = .int .i64 0 ∧ av = .string s ∧ bv = .string s ∧ (0 : Int) < (s.size : Int) ∧ ∃ hp : s.size - 1 < s.size, ((s[s.size - 1].toNat : Int) == 43) = false ∧ ((s[s.size - 1].toNat : Int) == 45) = false ∧ Hid (PwParts (bl s) (bl s) (bl s) 0)) := by
  rcases h with ⟨e1, e2, e3, hno⟩ | ⟨a, b, e1, e2, e3, ha, hb, hc⟩
  · right
    have hno2 : (58 : UInt8) ∉ bl s := by
      have := hno.out
      rwa [List.take_of_length_le (by rw [bl_len]; exact hj)] at this
    have hf : (cutAt 58 (bl s)).2.2 = false := by rw [cutAt_none hno2]
    rcases Nat.eq_zero_or_pos s.size with h0 | h0
    · left
      refine ⟨e1, e2, e3, by omega, ?_⟩
      have hn := bl_nil h0
      exact .inr ⟨by decide, rfl, hf, .inl ⟨rfl, by rw [hn]; rfl, by rw [hn]; rfl, rfl⟩⟩
    · right
      have hp : s.size - 1 < s.size := by omega
      have hl1 := lastIs_at (s := s) (n := 43) (by omega) hp
      have hl2 := lastIs_at (s := s) (n := 45) (by omega) hp
      cases h43 : ((s[s.size - 1].toNat : Int) == 43)
      · right
        cases h45 : ((s[s.size - 1].toNat : Int) == 45)
        · right
          exact ⟨e1, e2, e3, by omega, hp, by first | exact h43 | rfl, by first | exact h45 | rfl, .inr ⟨by decide, rfl, hf, .inl ⟨rfl, hl1.trans h43, hl2.trans h45, rfl⟩⟩⟩
        · left
          exact ⟨e1, e2, e3, by omega, hp, by first | exact h43 | rfl, by first | exact h45 | rfl, .inr ⟨by decide, rfl, hf, .inr (.inr ⟨rfl, hl1.trans h43, hl2.trans h45, bl_front s⟩)⟩⟩
      · left
        exact ⟨e1, e2, e3, by omega, hp, by first | exact h43 | rfl, .inr ⟨by decide, rfl, hf, .inr (.inl ⟨rfl, hl1.trans h43, bl_front s⟩)⟩⟩
  · exact .inl ⟨a, b, e1, e2, e3, ha, hb, .inl ⟨rfl, hc.out⟩⟩

set_option maxRecDepth 100000 in
set_option maxHeartbeats 8000000 in
theorem rparseWindow_else (s : ByteArray) (w : World) (hs : s.size ≤ 140737488351232) (hd : (s.toList == [45]) = false) :
    Calls Tryz.prog 168 #[.string s] w (PwPost s w) := by
  have h : Hid (bl s ≠ [45]) := by unfold Hid; rw [bl_toList, beq_eq_false_iff_ne] at hd; exact hd
  go_enter Tryz.func168, Tryz.ntmps168
  go_wp2
  go_loopw [4, 5, 6, 7] (fun av bv kv i wr => ∃ (j : Nat), j ≤ s.size ∧ i = .int .i64 j ∧ Drew (w.alloc (.cells #[.int .i64 0, .int .i64 0] 46)) wr ∧
    ((kv = .int .i64 0 ∧ av = .string s ∧ bv = .string s ∧ Hid ((58 : UInt8) ∉ (bl s).take j)) ∨ (∃ a b : ByteArray, kv = .int .i64 3 ∧ av = .string a ∧ bv = .string b ∧ a.size ≤ s.size ∧ b.size ≤ s.size ∧ Hid (cutAt 58 (bl s) = (bl a, bl b, true))))) (fun _ _ _ i _ => s.size - (intOf i).toNat)
  case atStart => exact ⟨0, Nat.zero_le _, rfl, Drew.refl _, .inl ⟨rfl, rfl, rfl, by unfold Hid; simp⟩⟩
  case round =>
    obtain ⟨j, hj, rfl, hbr, hst⟩ := hrel
    by_cases hjs : j < s.size
    · by_cases h58 : (s[j].toNat : Int) = 58
      · have e58 : ((s[j].toNat : Int) == 58) = true := beq_iff_eq.2 h58
        rcases hst with ⟨rfl, rfl, rfl, hno⟩ | ⟨a, b, rfl, rfl, rfl, ha, hb, hcut⟩
        · have HB := Lib.hid (cut_here hjs h58 hno.out)
          have hsa : (s.extract 0 j).size ≤ s.size := by rw [ByteArray.size_extract]; omega
          have hsb : (s.extract (j + 1) s.size).size ≤ s.size := by rw [ByteArray.size_extract]; omega
          clear h58
          go_wp2
          go_quiet (fail)
          go_wp2
          go_roundw
          case rel => exact ⟨j + 1, hjs, by go_num, hbr.more _, .inr ⟨_, _, rfl, rfl, rfl, hsa, hsb, HB.out⟩⟩
          case measure => simp [intOf]; omega
        · clear h58
          go_wp2
          go_roundw
          case rel => exact ⟨j + 1, hjs, by go_num, hbr, .inr ⟨a, b, rfl, rfl, rfl, ha, hb, hcut⟩⟩
          case measure => simp [intOf]; omega
      · have e58 : ((s[j].toNat : Int) == 58) = false := beq_eq_false_iff_ne.2 h58
        rcases hst with ⟨rfl, rfl, rfl, hno⟩ | ⟨a, b, rfl, rfl, rfl, ha, hb, hcut⟩
        · have HN2 := Lib.hid (notin_take_succ hjs h58 hno.out)
          clear h58
          go_wp2
          go_roundw
          case rel => exact ⟨j + 1, hjs, by go_num, hbr, .inl ⟨rfl, rfl, rfl, HN2.out⟩⟩
          case measure => simp [intOf]; omega
        · clear h58
          go_wp2
          go_roundw
          case rel => exact ⟨j + 1, hjs, by go_num, hbr, .inr ⟨a, b, rfl, rfl, rfl, ha, hb, hcut⟩⟩
          case measure => simp [intOf]; omega
    · have hjs2 : (s.size : Int) ≤ (j : Int) := by omega
      have hex := pw_ways hst (by omega)
      clear hst
      rcases hex with ⟨a, b, rfl, rfl, rfl, ha, hb, HQ⟩ | ⟨rfl, rfl, rfl, h0, HQ⟩ | ⟨rfl, rfl, rfl, h0, hpos, e43, HQ⟩ | ⟨rfl, rfl, rfl, h0, hpos, e43, e45, HQ⟩ | ⟨rfl, rfl, rfl, h0, hpos, e43, e45, HQ⟩
      · have hD : Hid (Below (w.alloc (.cells #[.int .i64 0, .int .i64 0] 46)).heap.size (w.alloc (.cells #[.int .i64 0, .int .i64 0] 46)) wr) := hbr.below; have HP := HQ
        go_wp2_with fail
        refine (altForm_any a _ (by omega)).mono ?_
        rintro e w2 ⟨n, fA, iA, rfl, hA, hbA⟩
        go_wp2_with fail
        refine (altForm_any b _ (by omega)).mono ?_
        rintro e w3 ⟨m, fB, iB, rfl, hB, hbB⟩
        have hb3 := Below.then_ (Below.then_ hD.out hbA) hbB
        obtain ⟨k0, k1⟩ := boxed2 hb3
        obtain ⟨f0, f1⟩ := boxed2f hb3
        have hBB := below_box hb3
        have hN : w.heap.size < w3.heap.size := Nat.lt_of_lt_of_le (by simp) hb3.size
        have hspec := Lib.hid (pwParts_spec h.out HP.out)
        have hbb := Lib.hid ((((hBB.setCell (p := ⟨w.heap.size, 0, none⟩) (Nat.le_refl _) (.int .i64 0)).setCell (p := ⟨w.heap.size, 1, none⟩) (Nat.le_refl _) (.int .i64 0))))
        clear hbA hbB hb3
        have hA' := refRes_cases hA
        have hB' := refRes_cases hB
        clear hA hB
        rcases hA' with ⟨rfl, hA⟩ | ⟨rfl, x, hA, hiA, hnA⟩
        · go_wp2
          refine bodyPost_ret (v := .tuple #[.agg #[.int .i64 0, .int .i64 0], .int .i64 4]) (by simp [results, Tryz.results168, go_sem, k0, k1, hN]) rfl ?_
          exact pwPost (o := none) (by rw [hspec.out, hA.out]; rfl) rfl rfl rfl hbb.out
        rcases hB' with ⟨rfl, hB⟩ | ⟨rfl, y, hB, hiB, hnB⟩
        · go_wp2
          refine bodyPost_ret (v := .tuple #[.agg #[.int .i64 0, .int .i64 0], .int .i64 4]) (by simp [results, Tryz.results168, go_sem, k0, k1, hN]) rfl ?_
          exact pwPost (o := none) (by rw [hspec.out]; exact pwJoin_none2 _ _ hB.out) rfl rfl rfl hbb.out
        by_cases hrr : (iA && iB) = false
        · have hr2 : (rangedB x && rangedB y) = false := by rw [← hiA.out, ← hiB.out]; exact hrr
          obtain ⟨lo, hi, hj, hr⟩ := pwJoin_range HP.out hA.out hB.out hr2
          have hq := Lib.hid (pw_range (l := bl s) hr)
          have HJ := Lib.hid (hspec.out.trans hj)
          clear hj hr hr2 hnA hnB
          rcases hi2 : iA with _ | _
          · subst hi2
            clear hrr
            go_wp2
            refine bodyPost_ret (v := .tuple #[.agg #[.int .i64 0, .int .i64 0], .int .i64 2]) (by simp [results, Tryz.results168, go_sem, k0, k1, hN]) rfl ?_
            exact pwPost HJ.out hq.out.1 hq.out.2.1 hq.out.2.2 hbb.out
          · subst hi2
            obtain rfl : iB = false := by simpa using hrr
            clear hrr
            go_wp2
            refine bodyPost_ret (v := .tuple #[.agg #[.int .i64 0, .int .i64 0], .int .i64 2]) (by simp [results, Tryz.results168, go_sem, k0, k1, hN]) rfl ?_
            exact pwPost HJ.out hq.out.1 hq.out.2.1 hq.out.2.2 hbb.out
        obtain ⟨rfl, rfl⟩ : iA = true ∧ iB = true := by simpa using hrr
        have hra : Hid (rangedB x = true) := hiA.out.symm
        have hrb : Hid (rangedB y = true) := hiB.out.symm
        obtain rfl : n = x := hnA rfl
        obtain rfl : m = y := hnB rfl
        clear hrr hnA hnB hiA hiB
        by_cases hord : m < n
        · have hq := Lib.hid (pw_order (l := bl s) hra.out hrb.out hord)
          have HJ := Lib.hid (hspec.out.trans (pwJoin_order HP.out hA.out hB.out hord))
          go_wp2
          refine bodyPost_ret (v := .tuple #[.agg #[.int .i64 0, .int .i64 0], .int .i64 9]) (by simp [results, Tryz.results168, go_sem, k0, k1, hN]) rfl ?_
          exact pwPost HJ.out hq.out.1 hq.out.2.1 hq.out.2.2 hbb.out
        have hord' : n ≤ m := by omega
        have ha2 : Hid (rangedB n = true) := hra
        have hb2 : Hid (rangedB m = true) := hrb
        have hlh : Hid (n ≤ m) := hord'
        have HJ : Hid (winSpec (bl s) = some (n, m)) := hspec.out.trans (pwJoin_some _ hA.out hB.out)
        clear hord hra hrb hspec hbb
        go_wp2_with fail
        refine (rwinText_any n m _).mono ?_
        rintro e w4 ⟨t, rfl, ht, hb4⟩
        obtain ⟨k2, k3⟩ := boxed2 hb4
        have m0 : w4.cell? ⟨w.heap.size, 0, none⟩ = some (.int .i64 0) := (hb4.cell (p := ⟨w.heap.size, 0, none⟩) (by simp; omega)).trans ((World.cell?_alloc_lt w3 _ ⟨w.heap.size, 0, none⟩ hN).trans k0)
        have m1 : w4.cell? ⟨w.heap.size, 1, none⟩ = some (.int .i64 0) := (hb4.cell (p := ⟨w.heap.size, 1, none⟩) (by simp; omega)).trans ((World.cell?_alloc_lt w3 _ ⟨w.heap.size, 1, none⟩ hN).trans k1)
        have n0 : w4.frozen? ⟨w.heap.size, 0, none⟩ = false := (hb4.frozen (p := ⟨w.heap.size, 0, none⟩) (by simp; omega)).trans ((frozen_alloc_lt w3 _ ⟨w.heap.size, 0, none⟩ hN).trans f0)
        have n1 : w4.frozen? ⟨w.heap.size, 1, none⟩ = false := (hb4.frozen (p := ⟨w.heap.size, 1, none⟩) (by simp; omega)).trans ((frozen_alloc_lt w3 _ ⟨w.heap.size, 1, none⟩ hN).trans f1)
        have hB2 : Below w.heap.size w w4 := (hBB.alloc (Nat.le_of_lt hN) _).trans (hb4.mono (by simp; omega))
        clear k0 k1 f0 f1
        by_cases hq : winOut n m = bl s
        · have e1 : (t.toList == s.toList) = true := by rw [bl_toList, bl_toList, ht.out, hq, beq_iff_eq]
          have h1 := Lib.hid (pw_ok ha2.out hb2.out hlh.out hq)
          clear hq
          go_wp2
          refine bodyPost_ret (v := .tuple #[.agg #[.int .i64 n, .int .i64 m], .int .i64 0]) (by simp [results, Tryz.results168, go_sem, m0, m1, k2, k3, hN]) rfl ?_
          exact pwPost HJ.out h1.out.1 h1.out.2.1 h1.out.2.2 ((hB2.setCell (p := ⟨w.heap.size, 0, none⟩) (Nat.le_refl _) _).setCell (p := ⟨w.heap.size, 1, none⟩) (Nat.le_refl _) _)
        · have e1 : (t.toList == s.toList) = false := by rw [bl_toList, bl_toList, ht.out, beq_eq_false_iff_ne]; exact hq
          have h1 := Lib.hid (pw_form ha2.out hb2.out hlh.out hq)
          clear hq
          go_wp2
          refine bodyPost_ret (v := .tuple #[.agg #[.int .i64 0, .int .i64 0], .int .i64 4]) (by simp [results, Tryz.results168, go_sem, m0, m1, hN]) rfl ?_
          exact pwPost HJ.out h1.out.1 h1.out.2.1 h1.out.2.2 ((hB2.setCell (p := ⟨w.heap.size, 0, none⟩) (Nat.le_refl _) _).setCell (p := ⟨w.heap.size, 1, none⟩) (Nat.le_refl _) _)
      · have hD : Hid (Below (w.alloc (.cells #[.int .i64 0, .int .i64 0] 46)).heap.size (w.alloc (.cells #[.int .i64 0, .int .i64 0] 46)) wr) := hbr.below; have HP := HQ
        go_wp2_with fail
        refine (altForm_any s _ (by omega)).mono ?_
        rintro e w2 ⟨n, fA, iA, rfl, hA, hbA⟩
        go_wp2_with fail
        refine (altForm_any s _ (by omega)).mono ?_
        rintro e w3 ⟨m, fB, iB, rfl, hB, hbB⟩
        have hb3 := Below.then_ (Below.then_ hD.out hbA) hbB
        obtain ⟨k0, k1⟩ := boxed2 hb3
        obtain ⟨f0, f1⟩ := boxed2f hb3
        have hBB := below_box hb3
        have hN : w.heap.size < w3.heap.size := Nat.lt_of_lt_of_le (by simp) hb3.size
        have hspec := Lib.hid (pwParts_spec h.out HP.out)
        have hbb := Lib.hid ((((hBB.setCell (p := ⟨w.heap.size, 0, none⟩) (Nat.le_refl _) (.int .i64 0)).setCell (p := ⟨w.heap.size, 1, none⟩) (Nat.le_refl _) (.int .i64 0))))
        clear hbA hbB hb3
        have hA' := refRes_cases hA
        have hB' := refRes_cases hB
        clear hA hB
        rcases hA' with ⟨rfl, hA⟩ | ⟨rfl, x, hA, hiA, hnA⟩
        · go_wp2
          refine bodyPost_ret (v := .tuple #[.agg #[.int .i64 0, .int .i64 0], .int .i64 4]) (by simp [results, Tryz.results168, go_sem, k0, k1, hN]) rfl ?_
          exact pwPost (o := none) (by rw [hspec.out, hA.out]; rfl) rfl rfl rfl hbb.out
        rcases hB' with ⟨rfl, hB⟩ | ⟨rfl, y, hB, hiB, hnB⟩
        · go_wp2
          refine bodyPost_ret (v := .tuple #[.agg #[.int .i64 0, .int .i64 0], .int .i64 4]) (by simp [results, Tryz.results168, go_sem, k0, k1, hN]) rfl ?_
          exact pwPost (o := none) (by rw [hspec.out]; exact pwJoin_none2 _ _ hB.out) rfl rfl rfl hbb.out
        by_cases hrr : (iA && iB) = false
        · have hr2 : (rangedB x && rangedB y) = false := by rw [← hiA.out, ← hiB.out]; exact hrr
          obtain ⟨lo, hi, hj, hr⟩ := pwJoin_range HP.out hA.out hB.out hr2
          have hq := Lib.hid (pw_range (l := bl s) hr)
          have HJ := Lib.hid (hspec.out.trans hj)
          clear hj hr hr2 hnA hnB
          rcases hi2 : iA with _ | _
          · subst hi2
            clear hrr
            go_wp2
            refine bodyPost_ret (v := .tuple #[.agg #[.int .i64 0, .int .i64 0], .int .i64 2]) (by simp [results, Tryz.results168, go_sem, k0, k1, hN]) rfl ?_
            exact pwPost HJ.out hq.out.1 hq.out.2.1 hq.out.2.2 hbb.out
          · subst hi2
            obtain rfl : iB = false := by simpa using hrr
            clear hrr
            go_wp2
            refine bodyPost_ret (v := .tuple #[.agg #[.int .i64 0, .int .i64 0], .int .i64 2]) (by simp [results, Tryz.results168, go_sem, k0, k1, hN]) rfl ?_
            exact pwPost HJ.out hq.out.1 hq.out.2.1 hq.out.2.2 hbb.out
        obtain ⟨rfl, rfl⟩ : iA = true ∧ iB = true := by simpa using hrr
        have hra : Hid (rangedB x = true) := hiA.out.symm
        have hrb : Hid (rangedB y = true) := hiB.out.symm
        obtain rfl : n = x := hnA rfl
        obtain rfl : m = y := hnB rfl
        clear hrr hnA hnB hiA hiB
        by_cases hord : m < n
        · have hq := Lib.hid (pw_order (l := bl s) hra.out hrb.out hord)
          have HJ := Lib.hid (hspec.out.trans (pwJoin_order HP.out hA.out hB.out hord))
          go_wp2
          refine bodyPost_ret (v := .tuple #[.agg #[.int .i64 0, .int .i64 0], .int .i64 9]) (by simp [results, Tryz.results168, go_sem, k0, k1, hN]) rfl ?_
          exact pwPost HJ.out hq.out.1 hq.out.2.1 hq.out.2.2 hbb.out
        have hord' : n ≤ m := by omega
        have ha2 : Hid (rangedB n = true) := hra
        have hb2 : Hid (rangedB m = true) := hrb
        have hlh : Hid (n ≤ m) := hord'
        have HJ : Hid (winSpec (bl s) = some (n, m)) := hspec.out.trans (pwJoin_some _ hA.out hB.out)
        clear hord hra hrb hspec hbb
        go_wp2_with fail
        refine (rwinText_any n m _).mono ?_
        rintro e w4 ⟨t, rfl, ht, hb4⟩
        obtain ⟨k2, k3⟩ := boxed2 hb4
        have m0 : w4.cell? ⟨w.heap.size, 0, none⟩ = some (.int .i64 0) := (hb4.cell (p := ⟨w.heap.size, 0, none⟩) (by simp; omega)).trans ((World.cell?_alloc_lt w3 _ ⟨w.heap.size, 0, none⟩ hN).trans k0)
        have m1 : w4.cell? ⟨w.heap.size, 1, none⟩ = some (.int .i64 0) := (hb4.cell (p := ⟨w.heap.size, 1, none⟩) (by simp; omega)).trans ((World.cell?_alloc_lt w3 _ ⟨w.heap.size, 1, none⟩ hN).trans k1)
        have n0 : w4.frozen? ⟨w.heap.size, 0, none⟩ = false := (hb4.frozen (p := ⟨w.heap.size, 0, none⟩) (by simp; omega)).trans ((frozen_alloc_lt w3 _ ⟨w.heap.size, 0, none⟩ hN).trans f0)
        have n1 : w4.frozen? ⟨w.heap.size, 1, none⟩ = false := (hb4.frozen (p := ⟨w.heap.size, 1, none⟩) (by simp; omega)).trans ((frozen_alloc_lt w3 _ ⟨w.heap.size, 1, none⟩ hN).trans f1)
        have hB2 : Below w.heap.size w w4 := (hBB.alloc (Nat.le_of_lt hN) _).trans (hb4.mono (by simp; omega))
        clear k0 k1 f0 f1
        by_cases hq : winOut n m = bl s
        · have e1 : (t.toList == s.toList) = true := by rw [bl_toList, bl_toList, ht.out, hq, beq_iff_eq]
          have h1 := Lib.hid (pw_ok ha2.out hb2.out hlh.out hq)
          clear hq
          go_wp2
          refine bodyPost_ret (v := .tuple #[.agg #[.int .i64 n, .int .i64 m], .int .i64 0]) (by simp [results, Tryz.results168, go_sem, m0, m1, k2, k3, hN]) rfl ?_
          exact pwPost HJ.out h1.out.1 h1.out.2.1 h1.out.2.2 ((hB2.setCell (p := ⟨w.heap.size, 0, none⟩) (Nat.le_refl _) _).setCell (p := ⟨w.heap.size, 1, none⟩) (Nat.le_refl _) _)
        · have e1 : (t.toList == s.toList) = false := by rw [bl_toList, bl_toList, ht.out, beq_eq_false_iff_ne]; exact hq
          have h1 := Lib.hid (pw_form ha2.out hb2.out hlh.out hq)
          clear hq
          go_wp2
          refine bodyPost_ret (v := .tuple #[.agg #[.int .i64 0, .int .i64 0], .int .i64 4]) (by simp [results, Tryz.results168, go_sem, m0, m1, hN]) rfl ?_
          exact pwPost HJ.out h1.out.1 h1.out.2.1 h1.out.2.2 ((hB2.setCell (p := ⟨w.heap.size, 0, none⟩) (Nat.le_refl _) _).setCell (p := ⟨w.heap.size, 1, none⟩) (Nat.le_refl _) _)
      · go_wp2; go_quiet (fail); generalize hx : s.extract 0 (s.size - 1) = x; have HP : Hid (PwParts (bl s) (bl x) (bl x) 1) := (by rw [← hx]; exact HQ.out); have hxs : x.size ≤ s.size := (by rw [← hx, ByteArray.size_extract]; omega); have hD : Hid (Below (w.alloc (.cells #[.int .i64 0, .int .i64 0] 46)).heap.size (w.alloc (.cells #[.int .i64 0, .int .i64 0] 46)) (wr.drewN nq)) := (hbr.more nq).below
        go_wp2_with fail
        refine (altForm_any x _ (by omega)).mono ?_
        rintro e w2 ⟨n, fA, iA, rfl, hA, hbA⟩
        go_wp2_with fail
        refine (altForm_any x _ (by omega)).mono ?_
        rintro e w3 ⟨m, fB, iB, rfl, hB, hbB⟩
        have hb3 := Below.then_ (Below.then_ hD.out hbA) hbB
        obtain ⟨k0, k1⟩ := boxed2 hb3
        obtain ⟨f0, f1⟩ := boxed2f hb3
        have hBB := below_box hb3
        have hN : w.heap.size < w3.heap.size := Nat.lt_of_lt_of_le (by simp) hb3.size
        have hspec := Lib.hid (pwParts_spec h.out HP.out)
        have hbb := Lib.hid ((((hBB.setCell (p := ⟨w.heap.size, 0, none⟩) (Nat.le_refl _) (.int .i64 0)).setCell (p := ⟨w.heap.size, 1, none⟩) (Nat.le_refl _) (.int .i64 0))))
        clear hbA hbB hb3
        have hA' := refRes_cases hA
        have hB' := refRes_cases hB
        clear hA hB
        rcases hA' with ⟨rfl, hA⟩ | ⟨rfl, x, hA, hiA, hnA⟩
        · go_wp2
          refine bodyPost_ret (v := .tuple #[.agg #[.int .i64 0, .int .i64 0], .int .i64 4]) (by simp [results, Tryz.results168, go_sem, k0, k1, hN]) rfl ?_
          exact pwPost (o := none) (by rw [hspec.out, hA.out]; rfl) rfl rfl rfl hbb.out
        rcases hB' with ⟨rfl, hB⟩ | ⟨rfl, y, hB, hiB, hnB⟩
        · go_wp2
          refine bodyPost_ret (v := .tuple #[.agg #[.int .i64 0, .int .i64 0], .int .i64 4]) (by simp [results, Tryz.results168, go_sem, k0, k1, hN]) rfl ?_
          exact pwPost (o := none) (by rw [hspec.out]; exact pwJoin_none2 _ _ hB.out) rfl rfl rfl hbb.out
        by_cases hrr : (iA && iB) = false
        · have hr2 : (rangedB x && rangedB y) = false := by rw [← hiA.out, ← hiB.out]; exact hrr
          obtain ⟨lo, hi, hj, hr⟩ := pwJoin_range HP.out hA.out hB.out hr2
          have hq := Lib.hid (pw_range (l := bl s) hr)
          have HJ := Lib.hid (hspec.out.trans hj)
          clear hj hr hr2 hnA hnB
          rcases hi2 : iA with _ | _
          · subst hi2
            clear hrr
            go_wp2
            refine bodyPost_ret (v := .tuple #[.agg #[.int .i64 0, .int .i64 0], .int .i64 2]) (by simp [results, Tryz.results168, go_sem, k0, k1, hN]) rfl ?_
            exact pwPost HJ.out hq.out.1 hq.out.2.1 hq.out.2.2 hbb.out
          · subst hi2
            obtain rfl : iB = false := by simpa using hrr
            clear hrr
            go_wp2
            refine bodyPost_ret (v := .tuple #[.agg #[.int .i64 0, .int .i64 0], .int .i64 2]) (by simp [results, Tryz.results168, go_sem, k0, k1, hN]) rfl ?_
            exact pwPost HJ.out hq.out.1 hq.out.2.1 hq.out.2.2 hbb.out
        obtain ⟨rfl, rfl⟩ : iA = true ∧ iB = true := by simpa using hrr
        have hra : Hid (rangedB x = true) := hiA.out.symm
        have hrb : Hid (rangedB y = true) := hiB.out.symm
        obtain rfl : n = x := hnA rfl
        obtain rfl : m = y := hnB rfl
        clear hrr hnA hnB hiA hiB
        by_cases hord : m < n
        · have hq := Lib.hid (pw_order (l := bl s) hra.out hrb.out hord)
          have HJ := Lib.hid (hspec.out.trans (pwJoin_order HP.out hA.out hB.out hord))
          go_wp2
          refine bodyPost_ret (v := .tuple #[.agg #[.int .i64 0, .int .i64 0], .int .i64 9]) (by simp [results, Tryz.results168, go_sem, k0, k1, hN]) rfl ?_
          exact pwPost HJ.out hq.out.1 hq.out.2.1 hq.out.2.2 hbb.out
        have hord' : n ≤ m := by omega
        have ha2 : Hid (rangedB n = true) := hra
        have hb2 : Hid (rangedB 6000000 = true) := (show rangedB 6000000 = true by decide)
        have hlh : Hid (n ≤ 6000000) := (ranged_ends hra.out).2
        have HJ : Hid (winSpec (bl s) = some (n, 6000000)) := hspec.out.trans (pwJoin_some _ hA.out hB.out)
        clear hord hra hrb hspec hbb
        go_wp2_with fail
        refine (rwinText_any n 6000000 _).mono ?_
        rintro e w4 ⟨t, rfl, ht, hb4⟩
        obtain ⟨k2, k3⟩ := boxed2 hb4
        have m0 : w4.cell? ⟨w.heap.size, 0, none⟩ = some (.int .i64 0) := (hb4.cell (p := ⟨w.heap.size, 0, none⟩) (by simp; omega)).trans ((World.cell?_alloc_lt w3 _ ⟨w.heap.size, 0, none⟩ hN).trans k0)
        have m1 : w4.cell? ⟨w.heap.size, 1, none⟩ = some (.int .i64 0) := (hb4.cell (p := ⟨w.heap.size, 1, none⟩) (by simp; omega)).trans ((World.cell?_alloc_lt w3 _ ⟨w.heap.size, 1, none⟩ hN).trans k1)
        have n0 : w4.frozen? ⟨w.heap.size, 0, none⟩ = false := (hb4.frozen (p := ⟨w.heap.size, 0, none⟩) (by simp; omega)).trans ((frozen_alloc_lt w3 _ ⟨w.heap.size, 0, none⟩ hN).trans f0)
        have n1 : w4.frozen? ⟨w.heap.size, 1, none⟩ = false := (hb4.frozen (p := ⟨w.heap.size, 1, none⟩) (by simp; omega)).trans ((frozen_alloc_lt w3 _ ⟨w.heap.size, 1, none⟩ hN).trans f1)
        have hB2 : Below w.heap.size w w4 := (hBB.alloc (Nat.le_of_lt hN) _).trans (hb4.mono (by simp; omega))
        clear k0 k1 f0 f1
        by_cases hq : winOut n 6000000 = bl s
        · have e1 : (t.toList == s.toList) = true := by rw [bl_toList, bl_toList, ht.out, hq, beq_iff_eq]
          have h1 := Lib.hid (pw_ok ha2.out hb2.out hlh.out hq)
          clear hq
          go_wp2
          refine bodyPost_ret (v := .tuple #[.agg #[.int .i64 n, .int .i64 6000000], .int .i64 0]) (by simp [results, Tryz.results168, go_sem, m0, m1, k2, k3, hN]) rfl ?_
          exact pwPost HJ.out h1.out.1 h1.out.2.1 h1.out.2.2 ((hB2.setCell (p := ⟨w.heap.size, 0, none⟩) (Nat.le_refl _) _).setCell (p := ⟨w.heap.size, 1, none⟩) (Nat.le_refl _) _)
        · have e1 : (t.toList == s.toList) = false := by rw [bl_toList, bl_toList, ht.out, beq_eq_false_iff_ne]; exact hq
          have h1 := Lib.hid (pw_form ha2.out hb2.out hlh.out hq)
          clear hq
          go_wp2
          refine bodyPost_ret (v := .tuple #[.agg #[.int .i64 0, .int .i64 0], .int .i64 4]) (by simp [results, Tryz.results168, go_sem, m0, m1, hN]) rfl ?_
          exact pwPost HJ.out h1.out.1 h1.out.2.1 h1.out.2.2 ((hB2.setCell (p := ⟨w.heap.size, 0, none⟩) (Nat.le_refl _) _).setCell (p := ⟨w.heap.size, 1, none⟩) (Nat.le_refl _) _)
      · go_wp2; go_quiet (fail); generalize hx : s.extract 0 (s.size - 1) = x; have HP : Hid (PwParts (bl s) (bl x) (bl x) 2) := (by rw [← hx]; exact HQ.out); have hxs : x.size ≤ s.size := (by rw [← hx, ByteArray.size_extract]; omega); have hD : Hid (Below (w.alloc (.cells #[.int .i64 0, .int .i64 0] 46)).heap.size (w.alloc (.cells #[.int .i64 0, .int .i64 0] 46)) (wr.drewN nq)) := (hbr.more nq).below
        go_wp2_with fail
        refine (altForm_any x _ (by omega)).mono ?_
        rintro e w2 ⟨n, fA, iA, rfl, hA, hbA⟩
        go_wp2_with fail
        refine (altForm_any x _ (by omega)).mono ?_
        rintro e w3 ⟨m, fB, iB, rfl, hB, hbB⟩
        have hb3 := Below.then_ (Below.then_ hD.out hbA) hbB
        obtain ⟨k0, k1⟩ := boxed2 hb3
        obtain ⟨f0, f1⟩ := boxed2f hb3
        have hBB := below_box hb3
        have hN : w.heap.size < w3.heap.size := Nat.lt_of_lt_of_le (by simp) hb3.size
        have hspec := Lib.hid (pwParts_spec h.out HP.out)
        have hbb := Lib.hid ((((hBB.setCell (p := ⟨w.heap.size, 0, none⟩) (Nat.le_refl _) (.int .i64 0)).setCell (p := ⟨w.heap.size, 1, none⟩) (Nat.le_refl _) (.int .i64 0))))
        clear hbA hbB hb3
        have hA' := refRes_cases hA
        have hB' := refRes_cases hB
        clear hA hB
        rcases hA' with ⟨rfl, hA⟩ | ⟨rfl, x, hA, hiA, hnA⟩
        · go_wp2
          refine bodyPost_ret (v := .tuple #[.agg #[.int .i64 0, .int .i64 0], .int .i64 4]) (by simp [results, Tryz.results168, go_sem, k0, k1, hN]) rfl ?_
          exact pwPost (o := none) (by rw [hspec.out, hA.out]; rfl) rfl rfl rfl hbb.out
        rcases hB' with ⟨rfl, hB⟩ | ⟨rfl, y, hB, hiB, hnB⟩
        · go_wp2
          refine bodyPost_ret (v := .tuple #[.agg #[.int .i64 0, .int .i64 0], .int .i64 4]) (by simp [results, Tryz.results168, go_sem, k0, k1, hN]) rfl ?_
          exact pwPost (o := none) (by rw [hspec.out]; exact pwJoin_none2 _ _ hB.out) rfl rfl rfl hbb.out
        by_cases hrr : (iA && iB) = false
        · have hr2 : (rangedB x && rangedB y) = false := by rw [← hiA.out, ← hiB.out]; exact hrr
          obtain ⟨lo, hi, hj, hr⟩ := pwJoin_range HP.out hA.out hB.out hr2
          have hq := Lib.hid (pw_range (l := bl s) hr)
          have HJ := Lib.hid (hspec.out.trans hj)
          clear hj hr hr2 hnA hnB
          rcases hi2 : iA with _ | _
          · subst hi2
            clear hrr
            go_wp2
            refine bodyPost_ret (v := .tuple #[.agg #[.int .i64 0, .int .i64 0], .int .i64 2]) (by simp [results, Tryz.results168, go_sem, k0, k1, hN]) rfl ?_
            exact pwPost HJ.out hq.out.1 hq.out.2.1 hq.out.2.2 hbb.out
          · subst hi2
            obtain rfl : iB = false := by simpa using hrr
            clear hrr
            go_wp2
            refine bodyPost_ret (v := .tuple #[.agg #[.int .i64 0, .int .i64 0], .int .i64 2]) (by simp [results, Tryz.results168, go_sem, k0, k1, hN]) rfl ?_
            exact pwPost HJ.out hq.out.1 hq.out.2.1 hq.out.2.2 hbb.out
        obtain ⟨rfl, rfl⟩ : iA = true ∧ iB = true := by simpa using hrr
        have hra : Hid (rangedB x = true) := hiA.out.symm
        have hrb : Hid (rangedB y = true) := hiB.out.symm
        obtain rfl : n = x := hnA rfl
        obtain rfl : m = y := hnB rfl
        clear hrr hnA hnB hiA hiB
        by_cases hord : m < n
        · have hq := Lib.hid (pw_order (l := bl s) hra.out hrb.out hord)
          have HJ := Lib.hid (hspec.out.trans (pwJoin_order HP.out hA.out hB.out hord))
          go_wp2
          refine bodyPost_ret (v := .tuple #[.agg #[.int .i64 0, .int .i64 0], .int .i64 9]) (by simp [results, Tryz.results168, go_sem, k0, k1, hN]) rfl ?_
          exact pwPost HJ.out hq.out.1 hq.out.2.1 hq.out.2.2 hbb.out
        have hord' : n ≤ m := by omega
        have ha2 : Hid (rangedB (-200000) = true) := (show rangedB (-200000) = true by decide)
        have hb2 : Hid (rangedB m = true) := hrb
        have hlh : Hid ((-200000) ≤ m) := (ranged_ends hrb.out).1
        have HJ : Hid (winSpec (bl s) = some ((-200000), m)) := hspec.out.trans (pwJoin_some _ hA.out hB.out)
        clear hord hra hrb hspec hbb
        go_wp2_with fail
        refine (rwinText_any (-200000) m _).mono ?_
        rintro e w4 ⟨t, rfl, ht, hb4⟩
        obtain ⟨k2, k3⟩ := boxed2 hb4
        have m0 : w4.cell? ⟨w.heap.size, 0, none⟩ = some (.int .i64 0) := (hb4.cell (p := ⟨w.heap.size, 0, none⟩) (by simp; omega)).trans ((World.cell?_alloc_lt w3 _ ⟨w.heap.size, 0, none⟩ hN).trans k0)
        have m1 : w4.cell? ⟨w.heap.size, 1, none⟩ = some (.int .i64 0) := (hb4.cell (p := ⟨w.heap.size, 1, none⟩) (by simp; omega)).trans ((World.cell?_alloc_lt w3 _ ⟨w.heap.size, 1, none⟩ hN).trans k1)
        have n0 : w4.frozen? ⟨w.heap.size, 0, none⟩ = false := (hb4.frozen (p := ⟨w.heap.size, 0, none⟩) (by simp; omega)).trans ((frozen_alloc_lt w3 _ ⟨w.heap.size, 0, none⟩ hN).trans f0)
        have n1 : w4.frozen? ⟨w.heap.size, 1, none⟩ = false := (hb4.frozen (p := ⟨w.heap.size, 1, none⟩) (by simp; omega)).trans ((frozen_alloc_lt w3 _ ⟨w.heap.size, 1, none⟩ hN).trans f1)
        have hB2 : Below w.heap.size w w4 := (hBB.alloc (Nat.le_of_lt hN) _).trans (hb4.mono (by simp; omega))
        clear k0 k1 f0 f1
        by_cases hq : winOut (-200000) m = bl s
        · have e1 : (t.toList == s.toList) = true := by rw [bl_toList, bl_toList, ht.out, hq, beq_iff_eq]
          have h1 := Lib.hid (pw_ok ha2.out hb2.out hlh.out hq)
          clear hq
          go_wp2
          refine bodyPost_ret (v := .tuple #[.agg #[.int .i64 (-200000), .int .i64 m], .int .i64 0]) (by simp [results, Tryz.results168, go_sem, m0, m1, k2, k3, hN]) rfl ?_
          exact pwPost HJ.out h1.out.1 h1.out.2.1 h1.out.2.2 ((hB2.setCell (p := ⟨w.heap.size, 0, none⟩) (Nat.le_refl _) _).setCell (p := ⟨w.heap.size, 1, none⟩) (Nat.le_refl _) _)
        · have e1 : (t.toList == s.toList) = false := by rw [bl_toList, bl_toList, ht.out, beq_eq_false_iff_ne]; exact hq
          have h1 := Lib.hid (pw_form ha2.out hb2.out hlh.out hq)
          clear hq
          go_wp2
          refine bodyPost_ret (v := .tuple #[.agg #[.int .i64 0, .int .i64 0], .int .i64 4]) (by simp [results, Tryz.results168, go_sem, m0, m1, hN]) rfl ?_
          exact pwPost HJ.out h1.out.1 h1.out.2.1 h1.out.2.2 ((hB2.setCell (p := ⟨w.heap.size, 0, none⟩) (Nat.le_refl _) _).setCell (p := ⟨w.heap.size, 1, none⟩) (Nat.le_refl _) _)
      · have hD : Hid (Below (w.alloc (.cells #[.int .i64 0, .int .i64 0] 46)).heap.size (w.alloc (.cells #[.int .i64 0, .int .i64 0] 46)) wr) := hbr.below; have HP := HQ
        go_wp2_with fail
        refine (altForm_any s _ (by omega)).mono ?_
        rintro e w2 ⟨n, fA, iA, rfl, hA, hbA⟩
        go_wp2_with fail
        refine (altForm_any s _ (by omega)).mono ?_
        rintro e w3 ⟨m, fB, iB, rfl, hB, hbB⟩
        have hb3 := Below.then_ (Below.then_ hD.out hbA) hbB
        obtain ⟨k0, k1⟩ := boxed2 hb3
        obtain ⟨f0, f1⟩ := boxed2f hb3
        have hBB := below_box hb3
        have hN : w.heap.size < w3.heap.size := Nat.lt_of_lt_of_le (by simp) hb3.size
        have hspec := Lib.hid (pwParts_spec h.out HP.out)
        have hbb := Lib.hid ((((hBB.setCell (p := ⟨w.heap.size, 0, none⟩) (Nat.le_refl _) (.int .i64 0)).setCell (p := ⟨w.heap.size, 1, none⟩) (Nat.le_refl _) (.int .i64 0))))
        clear hbA hbB hb3
        have hA' := refRes_cases hA
        have hB' := refRes_cases hB
        clear hA hB
        rcases hA' with ⟨rfl, hA⟩ | ⟨rfl, x, hA, hiA, hnA⟩
        · go_wp2
          refine bodyPost_ret (v := .tuple #[.agg #[.int .i64 0, .int .i64 0], .int .i64 4]) (by simp [results, Tryz.results168, go_sem, k0, k1, hN]) rfl ?_
          exact pwPost (o := none) (by rw [hspec.out, hA.out]; rfl) rfl rfl rfl hbb.out
        rcases hB' with ⟨rfl, hB⟩ | ⟨rfl, y, hB, hiB, hnB⟩
        · go_wp2
          refine bodyPost_ret (v := .tuple #[.agg #[.int .i64 0, .int .i64 0], .int .i64 4]) (by simp [results, Tryz.results168, go_sem, k0, k1, hN]) rfl ?_
          exact pwPost (o := none) (by rw [hspec.out]; exact pwJoin_none2 _ _ hB.out) rfl rfl rfl hbb.out
        by_cases hrr : (iA && iB) = false
        · have hr2 : (rangedB x && rangedB y) = false := by rw [← hiA.out, ← hiB.out]; exact hrr
          obtain ⟨lo, hi, hj, hr⟩ := pwJoin_range HP.out hA.out hB.out hr2
          have hq := Lib.hid (pw_range (l := bl s) hr)
          have HJ := Lib.hid (hspec.out.trans hj)
          clear hj hr hr2 hnA hnB
          rcases hi2 : iA with _ | _
          · subst hi2
            clear hrr
            go_wp2
            refine bodyPost_ret (v := .tuple #[.agg #[.int .i64 0, .int .i64 0], .int .i64 2]) (by simp [results, Tryz.results168, go_sem, k0, k1, hN]) rfl ?_
            exact pwPost HJ.out hq.out.1 hq.out.2.1 hq.out.2.2 hbb.out
          · subst hi2
            obtain rfl : iB = false := by simpa using hrr
            clear hrr
            go_wp2
            refine bodyPost_ret (v := .tuple #[.agg #[.int .i64 0, .int .i64 0], .int .i64 2]) (by simp [results, Tryz.results168, go_sem, k0, k1, hN]) rfl ?_
            exact pwPost HJ.out hq.out.1 hq.out.2.1 hq.out.2.2 hbb.out
        obtain ⟨rfl, rfl⟩ : iA = true ∧ iB = true := by simpa using hrr
        have hra : Hid (rangedB x = true) := hiA.out.symm
        have hrb : Hid (rangedB y = true) := hiB.out.symm
        obtain rfl : n = x := hnA rfl
        obtain rfl : m = y := hnB rfl
        clear hrr hnA hnB hiA hiB
        by_cases hord : m < n
        · have hq := Lib.hid (pw_order (l := bl s) hra.out hrb.out hord)
          have HJ := Lib.hid (hspec.out.trans (pwJoin_order HP.out hA.out hB.out hord))
          go_wp2
          refine bodyPost_ret (v := .tuple #[.agg #[.int .i64 0, .int .i64 0], .int .i64 9]) (by simp [results, Tryz.results168, go_sem, k0, k1, hN]) rfl ?_
          exact pwPost HJ.out hq.out.1 hq.out.2.1 hq.out.2.2 hbb.out
        have hord' : n ≤ m := by omega
        have ha2 : Hid (rangedB n = true) := hra
        have hb2 : Hid (rangedB m = true) := hrb
        have hlh : Hid (n ≤ m) := hord'
        have HJ : Hid (winSpec (bl s) = some (n, m)) := hspec.out.trans (pwJoin_some _ hA.out hB.out)
        clear hord hra hrb hspec hbb
        go_wp2_with fail
        refine (rwinText_any n m _).mono ?_
        rintro e w4 ⟨t, rfl, ht, hb4⟩
        obtain ⟨k2, k3⟩ := boxed2 hb4
        have m0 : w4.cell? ⟨w.heap.size, 0, none⟩ = some (.int .i64 0) := (hb4.cell (p := ⟨w.heap.size, 0, none⟩) (by simp; omega)).trans ((World.cell?_alloc_lt w3 _ ⟨w.heap.size, 0, none⟩ hN).trans k0)
        have m1 : w4.cell? ⟨w.heap.size, 1, none⟩ = some (.int .i64 0) := (hb4.cell (p := ⟨w.heap.size, 1, none⟩) (by simp; omega)).trans ((World.cell?_alloc_lt w3 _ ⟨w.heap.size, 1, none⟩ hN).trans k1)
        have n0 : w4.frozen? ⟨w.heap.size, 0, none⟩ = false := (hb4.frozen (p := ⟨w.heap.size, 0, none⟩) (by simp; omega)).trans ((frozen_alloc_lt w3 _ ⟨w.heap.size, 0, none⟩ hN).trans f0)
        have n1 : w4.frozen? ⟨w.heap.size, 1, none⟩ = false := (hb4.frozen (p := ⟨w.heap.size, 1, none⟩) (by simp; omega)).trans ((frozen_alloc_lt w3 _ ⟨w.heap.size, 1, none⟩ hN).trans f1)
        have hB2 : Below w.heap.size w w4 := (hBB.alloc (Nat.le_of_lt hN) _).trans (hb4.mono (by simp; omega))
        clear k0 k1 f0 f1
        by_cases hq : winOut n m = bl s
        · have e1 : (t.toList == s.toList) = true := by rw [bl_toList, bl_toList, ht.out, hq, beq_iff_eq]
          have h1 := Lib.hid (pw_ok ha2.out hb2.out hlh.out hq)
          clear hq
          go_wp2
          refine bodyPost_ret (v := .tuple #[.agg #[.int .i64 n, .int .i64 m], .int .i64 0]) (by simp [results, Tryz.results168, go_sem, m0, m1, k2, k3, hN]) rfl ?_
          exact pwPost HJ.out h1.out.1 h1.out.2.1 h1.out.2.2 ((hB2.setCell (p := ⟨w.heap.size, 0, none⟩) (Nat.le_refl _) _).setCell (p := ⟨w.heap.size, 1, none⟩) (Nat.le_refl _) _)
        · have e1 : (t.toList == s.toList) = false := by rw [bl_toList, bl_toList, ht.out, beq_eq_false_iff_ne]; exact hq
          have h1 := Lib.hid (pw_form ha2.out hb2.out hlh.out hq)
          clear hq
          go_wp2
          refine bodyPost_ret (v := .tuple #[.agg #[.int .i64 0, .int .i64 0], .int .i64 4]) (by simp [results, Tryz.results168, go_sem, m0, m1, hN]) rfl ?_
          exact pwPost HJ.out h1.out.1 h1.out.2.1 h1.out.2.2 ((hB2.setCell (p := ⟨w.heap.size, 0, none⟩) (Nat.le_refl _) _).setCell (p := ⟨w.heap.size, 1, none⟩) (Nat.le_refl _) _)
theorem rparseWindow_any (s : ByteArray) (w : World) (hs : s.size ≤ 140737488351232) :
    Calls Tryz.prog 168 #[.string s] w (PwPost s w) := by
  cases h : (s.toList == [45])
  · exact rparseWindow_else s w hs h
  · exact rparseWindow_dash s w h
end Go.Proofs.YtlgajjlnbcbijaaGreatDoor
