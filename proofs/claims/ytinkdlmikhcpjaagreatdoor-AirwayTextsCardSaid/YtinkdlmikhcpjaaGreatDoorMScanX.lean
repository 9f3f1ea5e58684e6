/-
  Several texts as one.
  Contract: flightdeckref08.ParseWindow.
  Contracts: a window that a scanner takes; both sides.
  Contracts: record.texts, record.Write and the reference's Join, Write: the texts of fields with blanks between them, and records as lines.
  Contracts: how many fields are left; a name, a number, all the rest that a scanner takes. Both sides.
  Contracts: all the rest that a scanner takes (both sides); a name and a number that the reference's takes.
-/
import Derived.Test.YtinkdlmikhcpjaaGreatDoorMRead
import Derived.Test.YtinkdlmikhcpjaaGreatDoorMScan
import Derived.Test.YtinkdlmikhcpjaaGreatDoorShelf
import Derived.Test.YtinkdlmikhcpjaaGreatDoorMParse
namespace Go.Proofs.YtinkdlmikhcpjaaGreatDoor
open Go.RowKit
set_option linter.unusedVariables false
set_option linter.unusedSimpArgs false

/-- the parts of the text of a window, and which kind it is of -/
def PwParts (l a b : List UInt8) (k : Int) : Prop :=
  (k = 3 ∧ cutAt 58 l = (a, b, true)) ∨ (k ≠ 3 ∧ a = b ∧ (cutAt 58 l).2.2 = false ∧
    ((k = 0 ∧ lastIs 43 l = false ∧ lastIs 45 l = false ∧ a = l) ∨ (k = 1 ∧ lastIs 43 l = true ∧ a = l.dropLast) ∨ (k = 2 ∧ lastIs 43 l = false ∧ lastIs 45 l = true ∧ a = l.dropLast)))
def pwJoin (k : Int) (x y : Option Int) : Option (Int × Int) := match x, y with
  | some x, some y => some (if k = 2 then -200000 else x, if k = 1 then 6000000 else y)
  | _, _ => none
theorem pwJoin_none2 (k : Int) {o2 : Option Int} (o : Option Int) (h : o2 = none) : pwJoin k o o2 = none := by
  subst h; cases o <;> rfl
theorem pwJoin_some (k : Int) {o1 o2 : Option Int} {x y : Int} (h1 : o1 = some x) (h2 : o2 = some y) : pwJoin k o1 o2 = some (if k = 2 then -200000 else x, if k = 1 then 6000000 else y) := by
  subst h1 h2; rfl
theorem pwParts_spec {l a b : List UInt8} {k : Int} (hl : l ≠ [45]) (h : PwParts l a b k) : winSpec l = pwJoin k (altSpec a) (altSpec b) := by
  rcases h with ⟨rfl, h⟩ | ⟨_, rfl, hf, h⟩
  · rw [winSpec_eq hl h]
    unfold winOf pwJoin
    rw [if_pos rfl]
    cases altSpec a <;> cases altSpec b <;> rfl
  · have hc : cutAt 58 l = ((cutAt 58 l).1, (cutAt 58 l).2.1, false) := by rw [← hf]
    rw [winSpec_eq hl hc]
    unfold winOf pwJoin
    rw [if_neg (by decide)]
    rcases h with ⟨rfl, h1, h2, rfl⟩ | ⟨rfl, h1, rfl⟩ | ⟨rfl, h1, h2, rfl⟩
    · rw [h1, h2]
      cases altSpec a <;> rfl
    · rw [h1]
      cases altSpec l.dropLast <;> rfl
    · rw [h1, h2]
      cases altSpec l.dropLast <;> rfl
theorem pwJoin_range {l a b : List UInt8} {k x y : Int} (h : PwParts l a b k) (ha : altSpec a = some x) (hb : altSpec b = some y) (hr : (rangedB x && rangedB y) = false) :
    ∃ lo hi, pwJoin k (altSpec a) (altSpec b) = some (lo, hi) ∧ (rangedB lo && rangedB hi) = false := by
  refine ⟨_, _, by rw [ha, hb]; rfl, ?_⟩
  rcases h with ⟨rfl, h⟩ | ⟨_, rfl, hf, h⟩
  · exact hr
  · rw [ha, Option.some.injEq] at hb
    subst hb
    rw [Bool.and_self] at hr
    rcases h with ⟨rfl, h1, h2, rfl⟩ | ⟨rfl, h1, rfl⟩ | ⟨rfl, h1, h2, rfl⟩
    · simp [hr]
    · simp [hr]
    · simp [hr]
theorem pwJoin_order {l a b : List UInt8} {k x y : Int} (h : PwParts l a b k) (ha : altSpec a = some x) (hb : altSpec b = some y) (hr : y < x) :
    pwJoin k (altSpec a) (altSpec b) = some (x, y) := by
  rcases h with ⟨rfl, h⟩ | ⟨_, rfl, hf, h⟩
  · rw [ha, hb]; rfl
  · rw [ha, Option.some.injEq] at hb
    omega
theorem notin_take_succ {s : ByteArray} {j : Nat} (hj : j < s.size) (hc : ¬ (s[j].toNat : Int) = 58) (h : (58 : UInt8) ∉ (bl s).take j) : (58 : UInt8) ∉ (bl s).take (j + 1) := by
  rw [List.take_succ_eq_append_getElem (show j < (bl s).length from hj), List.mem_append, List.mem_singleton]
  rintro (e | e)
  · exact h e
  · apply hc
    have : (58 : UInt8) = s[j] := e
    rw [← this]; rfl
theorem cut_here {s : ByteArray} {j : Nat} (hj : j < s.size) (hc : (s[j].toNat : Int) = 58) (h : (58 : UInt8) ∉ (bl s).take j) : cutAt 58 (bl s) = (bl (s.extract 0 j), bl (s.extract (j + 1) s.size), true) := by
  have e58 : s[j] = 58 := by apply UInt8.toNat_inj.1; show s[j].toNat = 58; omega
  have h1 : bl s = (bl s).take j ++ (58 : UInt8) :: (bl s).drop (j + 1) := by
    conv => lhs; rw [← List.take_append_drop j (bl s)]
    rw [List.drop_eq_getElem_cons (show j < (bl s).length from hj)]
    exact congrArg (fun c : UInt8 => (bl s).take j ++ c :: (bl s).drop (j + 1)) e58
  rw [bl_take, bl_drop]
  conv => lhs; rw [h1]
  exact cutAt_mid h
theorem lastIs_at {s : ByteArray} {n : Nat} (hn : n < 256) (h : s.size - 1 < s.size) : lastIs (UInt8.ofNat n) (bl s) = ((s[s.size - 1].toNat : Int) == (n : Int)) := by
  unfold lastIs
  rw [List.getLast?_eq_getElem?, bl_len, bl_get? s _ h, Bool.eq_iff_iff, beq_iff_eq, beq_iff_eq, Option.some.injEq, ← u8_eq hn]
  omega
theorem bl_front (s : ByteArray) : bl (s.extract 0 (s.size - 1)) = (bl s).dropLast := by
  rw [bl_take, List.dropLast_eq_take, bl_len]

theorem refRes_cases {s : ByteArray} {n : Int} {form inn : Bool} (h : match altSpec (bl s) with
    | none => form = false
    | some v => form = true ∧ inn = rangedB v ∧ (inn = true → n = v)) : (form = false ∧ Hid (altSpec (bl s) = none)) ∨ (form = true ∧ ∃ v, Hid (altSpec (bl s) = some v) ∧ Hid (inn = rangedB v) ∧ (inn = true → n = v)) := by
  cases h2 : altSpec (bl s) with
  | none => rw [h2] at h; exact .inl ⟨h, rfl⟩
  | some v => rw [h2] at h; exact .inr ⟨h.1, v, rfl, h.2.1, h.2.2⟩

set_option maxHeartbeats 400000 in
theorem rparseWindow_dash (s : ByteArray) (w : World) (hd : (s.toList == [45]) = true) :
    Calls Tryz.prog 107 #[.string s] w (PwPost s w) := by
  have h : Hid (bl s = [45]) := by unfold Hid; rw [bl_toList, beq_iff_eq] at hd; exact hd
  go_enter Tryz.func107, Tryz.ntmps107
  go_wp2
  refine bodyPost_ret (v := .tuple #[.agg #[.int .i64 (-200000), .int .i64 6000000], .int .i64 0]) (by simp [results, Tryz.results107, go_sem]) rfl ?_
  have e : winOut (-200000) 6000000 = bl s := by rw [h.out]; rfl
  have h1 := pw_ok (l := bl s) (a := -200000) (b := 6000000) (by decide) (by decide) (by decide) e
  exact pwPost (o := some (-200000, 6000000)) (by unfold winSpec; rw [if_pos h.out]) h1.1 h1.2.1 h1.2.2 ((Below.refl _ _).alloc (Nat.le_refl _) _)

theorem ranged_ends {n : Int} (h : rangedB n = true) : -200000 ≤ n ∧ n ≤ 6000000 := by unfold rangedB at h; simpa using h
/-- the ways in which the loop over the text of a window ends -/
theorem pw_ways {s : ByteArray} {j : Nat} {kv av bv : Value} (h : (kv = .int .i64 0 ∧ av = .string s ∧ bv = .string s ∧ Hid ((58 : UInt8) ∉ (bl s).take j)) ∨ (∃ a b : ByteArray, kv = .int .i64 3 ∧ av = .string a ∧ bv = .string b ∧ a.size ≤ s.size ∧ b.size ≤ s.size ∧ Hid (cutAt 58 (bl s) = (bl a, bl b, true)))) (hj : s.size ≤ j) :
    (∃ a b : ByteArray, kv = .int .i64 3 ∧ av = .string a ∧ bv = .string b ∧ a.size ≤ s.size ∧ b.size ≤ s.size ∧ Hid (PwParts (bl s) (bl a) (bl b) 3)) ∨
    (kv = .int .i64 0 ∧ av = .string s ∧ bv = .string s ∧ (s.size : Int) ≤ 0 ∧ Hid (PwParts (bl s) (bl s) (bl s) 0)) ∨
    (kv = .int .i64 0 ∧ av = .string s ∧ bv = .string s ∧ (0 : Int) < (s.size : Int) ∧ ∃ hp : s.size - 1 < s.size, ((s[s.size - 1].toNat : Int) == 43) = true ∧ Hid (PwParts (bl s) (bl (s.extract 0 (s.size - 1))) (bl (s.extract 0 (s.size - 1))) 1)) ∨
    (kv = .int .i64 0 ∧ av = .string s ∧ bv = .string s ∧ (0 : Int) < (s.size : Int) ∧ ∃ hp : s.size - 1 < s.size, ((s[s.size - 1].toNat : Int) == 43) = false ∧ ((s[s.size - 1].toNat : Int) == 45) = true ∧ Hid (PwParts (bl s) (bl (s.extract 0 (s.size - 1))) (bl (s.extract 0 (s.size - 1))) 2)) ∨
    (kv = .int .i64 0 ∧ av = .string s ∧ bv = .string s ∧ (0 : Int) < (s.size : Int) ∧ ∃ hp : s.size - 1 < s.size, ((s[s.size - 1].toNat : Int) == 43) = false ∧ ((s[s.size - 1].toNat : Int) == 45) = false ∧ Hid (PwParts (bl s) (bl s) (bl s) 0)) := by
  rcases h with ⟨e1, e2, e3, hno⟩ | ⟨a, b, e1, e2, e3, ha, hb, hc⟩
  · right
    have hno2 : (58 : UInt8) ∉ bl s := by
      have := hno.out
      rwa [List.take_of_length_le (by rw [bl_len]; exact hj)] at this
    have hf : (cutAt 58 (bl s)).2.2 = false := by rw [cutAt_none hno2]
    rcases Nat.eq_zero_or_pos s.size with h0 | h0
    · left
      refine ⟨e1, e2, e3, by omega, ?_⟩
      have hn := bl_nil h0
      exact .inr ⟨by decide, rfl, hf, .inl ⟨rfl, by rw [hn]; rfl, by rw [hn]; rfl, rfl⟩⟩
    · right
      have hp : s.size - 1 < s.size := by omega
      have hl1 := lastIs_at (s := s) (n := 43) (by omega) hp
      have hl2 := lastIs_at (s := s) (n := 45) (by omega) hp
      cases h43 : ((s[s.size - 1].toNat : Int) == 43)
      · right
        cases h45 : ((s[s.size - 1].toNat : Int) == 45)
        · right
          exact ⟨e1, e2, e3, by omega, hp, by first | exact h43 | rfl, by first | exact h45 | rfl, .inr ⟨by decide, rfl, hf, .inl ⟨rfl, hl1.trans h43, hl2.trans h45, rfl⟩⟩⟩
        · left
          exact ⟨e1, e2, e3, by omega, hp, by first | exact h43 | rfl, by first | exact h45 | rfl, .inr ⟨by decide, rfl, hf, .inr (.inr ⟨rfl, hl1.trans h43, hl2.trans h45, bl_front s⟩)⟩⟩
      · left
        exact ⟨e1, e2, e3, by omega, hp, by first | exact h43 | rfl, .inr ⟨by decide, rfl, hf, .inr (.inl ⟨rfl, hl1.trans h43, bl_front s⟩)⟩⟩
  · exact .inl ⟨a, b, e1, e2, e3, ha, hb, .inl ⟨rfl, hc.out⟩⟩

set_option maxRecDepth 100000 in
set_option maxHeartbeats 8000000 in
theorem rparseWindow_else (s : ByteArray) (w : World) (hs : s.size ≤ 140737488351232) (hd : (s.toList == [45]) = false) :
    Calls Tryz.prog 107 #[.string s] w (PwPost s w) := by
  have h : Hid (bl s ≠ [45]) := by unfold Hid; rw [bl_toList, beq_eq_false_iff_ne] at hd; exact hd
  go_enter Tryz.func107, Tryz.ntmps107
  go_wp2
  go_loopw [4, 5, 6, 7] (fun av bv kv i wr => ∃ (j : Nat), j ≤ s.size ∧ i = .int .i64 j ∧ Drew (w.alloc (.cells #[.int .i64 0, .int .i64 0] 72)) wr ∧
    ((kv = .int .i64 0 ∧ av = .string s ∧ bv = .string s ∧ Hid ((58 : UInt8) ∉ (bl s).take j)) ∨ (∃ a b : ByteArray, kv = .int .i64 3 ∧ av = .string a ∧ bv = .string b ∧ a.size ≤ s.size ∧ b.size ≤ s.size ∧ Hid (cutAt 58 (bl s) = (bl a, bl b, true))))) (fun _ _ _ i _ => s.size - (intOf i).toNat)
  case atStart => exact ⟨0, Nat.zero_le _, rfl, Drew.refl _, .inl ⟨rfl, rfl, rfl, by unfold Hid; simp⟩⟩
  case round =>
    obtain ⟨j, hj, rfl, hbr, hst⟩ := hrel
    by_cases hjs : j < s.size
    · by_cases h58 : (s[j].toNat : Int) = 58
      · have e58 : ((s[j].toNat : Int) == 58) = true := beq_iff_eq.2 h58
        rcases hst with ⟨rfl, rfl, rfl, hno⟩ | ⟨a, b, rfl, rfl, rfl, ha, hb, hcut⟩
        · have HB := Lib.hid (cut_here hjs h58 hno.out)
          have hsa : (s.extract 0 j).size ≤ s.size := by rw [ByteArray.size_extract]; omega
          have hsb : (s.extract (j + 1) s.size).size ≤ s.size := by rw [ByteArray.size_extract]; omega
          clear h58
          go_wp2
          go_quiet (fail)
          go_wp2
          go_roundw
          case rel => exact ⟨j + 1, hjs, by go_num, hbr.more _, .inr ⟨_, _, rfl, rfl, rfl, hsa, hsb, HB.out⟩⟩
          case measure => simp [intOf]; omega
        · clear h58
          go_wp2
          go_roundw
          case rel => exact ⟨j + 1, hjs, by go_num, hbr, .inr ⟨a, b, rfl, rfl, rfl, ha, hb, hcut⟩⟩
          case measure => simp [intOf]; omega
      · have e58 : ((s[j].toNat : Int) == 58) = false := beq_eq_false_iff_ne.2 h58
        rcases hst with ⟨rfl, rfl, rfl, hno⟩ | ⟨a, b, rfl, rfl, rfl, ha, hb, hcut⟩
        · have HN2 := Lib.hid (notin_take_succ hjs h58 hno.out)
          clear h58
          go_wp2
          go_roundw
          case rel => exact ⟨j + 1, hjs, by go_num, hbr, .inl ⟨rfl, rfl, rfl, HN2.out⟩⟩
          case measure => simp [intOf]; omega
        · clear h58
          go_wp2
          go_roundw
          case rel => exact ⟨j + 1, hjs, by go_num, hbr, .inr ⟨a, b, rfl, rfl, rfl, ha, hb, hcut⟩⟩
          case measure => simp [intOf]; omega
    · have hjs2 : (s.size : Int) ≤ (j : Int) := by omega
      have hex := pw_ways hst (by omega)
      clear hst
      rcases hex with ⟨a, b, rfl, rfl, rfl, ha, hb, HQ⟩ | ⟨rfl, rfl, rfl, h0, HQ⟩ | ⟨rfl, rfl, rfl, h0, hpos, e43, HQ⟩ | ⟨rfl, rfl, rfl, h0, hpos, e43, e45, HQ⟩ | ⟨rfl, rfl, rfl, h0, hpos, e43, e45, HQ⟩
      · have hD : Hid (Below (w.alloc (.cells #[.int .i64 0, .int .i64 0] 72)).heap.size (w.alloc (.cells #[.int .i64 0, .int .i64 0] 72)) wr) := hbr.below; have HP := HQ
        go_wp2_with fail
        refine (altForm_any a _ (by omega)).mono ?_
        rintro e w2 ⟨n, fA, iA, rfl, hA, hbA⟩
        go_wp2_with fail
        refine (altForm_any b _ (by omega)).mono ?_
        rintro e w3 ⟨m, fB, iB, rfl, hB, hbB⟩
        have hb3 := Below.then_ (Below.then_ hD.out hbA) hbB
        obtain ⟨k0, k1⟩ := boxed2 hb3
        obtain ⟨f0, f1⟩ := boxed2f hb3
        have hBB := below_box hb3
        have hN : w.heap.size < w3.heap.size := Nat.lt_of_lt_of_le (by simp) hb3.size
        have hspec := Lib.hid (pwParts_spec h.out HP.out)
        have hbb := Lib.hid ((((hBB.setCell (p := ⟨w.heap.size, 0, none⟩) (Nat.le_refl _) (.int .i64 0)).setCell (p := ⟨w.heap.size, 1, none⟩) (Nat.le_refl _) (.int .i64 0))))
        clear hbA hbB hb3
        have hA' := refRes_cases hA
        have hB' := refRes_cases hB
        clear hA hB
        rcases hA' with ⟨rfl, hA⟩ | ⟨rfl, x, hA, hiA, hnA⟩
        · go_wp2
          refine bodyPost_ret (v := .tuple #[.agg #[.int .i64 0, .int .i64 0], .int .i64 4]) (by simp [results, Tryz.results107, go_sem, k0, k1, hN]) rfl ?_
          exact pwPost (o := none) (by rw [hspec.out, hA.out]; rfl) rfl rfl rfl hbb.out
        rcases hB' with ⟨rfl, hB⟩ | ⟨rfl, y, hB, hiB, hnB⟩
        · go_wp2
          refine bodyPost_ret (v := .tuple #[.agg #[.int .i64 0, .int .i64 0], .int .i64 4]) (by simp [results, Tryz.results107, go_sem, k0, k1, hN]) rfl ?_
          exact pwPost (o := none) (by rw [hspec.out]; exact pwJoin_none2 _ _ hB.out) rfl rfl rfl hbb.out
        by_cases hrr : (iA && iB) = false
        · have hr2 : (rangedB x && rangedB y) = false := by rw [← hiA.out, ← hiB.out]; exact hrr
          obtain ⟨lo, hi, hj, hr⟩ := pwJoin_range HP.out hA.out hB.out hr2
          have hq := Lib.hid (pw_range (l := bl s) hr)
          have HJ := Lib.hid (hspec.out.trans hj)
          clear hj hr hr2 hnA hnB
          rcases hi2 : iA with _ | _
          · subst hi2
            clear hrr
            go_wp2
            refine bodyPost_ret (v := .tuple #[.agg #[.int .i64 0, .int .i64 0], .int .i64 2]) (by simp [results, Tryz.results107, go_sem, k0, k1, hN]) rfl ?_
            exact pwPost HJ.out hq.out.1 hq.out.2.1 hq.out.2.2 hbb.out
          · subst hi2
            obtain rfl : iB = false := by simpa using hrr
            clear hrr
            go_wp2
            refine bodyPost_ret (v := .tuple #[.agg #[.int .i64 0, .int .i64 0], .int .i64 2]) (by simp [results, Tryz.results107, go_sem, k0, k1, hN]) rfl ?_
            exact pwPost HJ.out hq.out.1 hq.out.2.1 hq.out.2.2 hbb.out
        obtain ⟨rfl, rfl⟩ : iA = true ∧ iB = true := by simpa using hrr
        have hra : Hid (rangedB x = true) := hiA.out.symm
        have hrb : Hid (rangedB y = true) := hiB.out.symm
        obtain rfl : n = x := hnA rfl
        obtain rfl : m = y := hnB rfl
        clear hrr hnA hnB hiA hiB
        by_cases hord : m < n
        · have hq := Lib.hid (pw_order (l := bl s) hra.out hrb.out hord)
          have HJ := Lib.hid (hspec.out.trans (pwJoin_order HP.out hA.out hB.out hord))
          go_wp2
          refine bodyPost_ret (v := .tuple #[.agg #[.int .i64 0, .int .i64 0], .int .i64 9]) (by simp [results, Tryz.results107, go_sem, k0, k1, hN]) rfl ?_
          exact pwPost HJ.out hq.out.1 hq.out.2.1 hq.out.2.2 hbb.out
        have hord' : n ≤ m := by omega
        have ha2 : Hid (rangedB n = true) := hra
        have hb2 : Hid (rangedB m = true) := hrb
        have hlh : Hid (n ≤ m) := hord'
        have HJ : Hid (winSpec (bl s) = some (n, m)) := hspec.out.trans (pwJoin_some _ hA.out hB.out)
        clear hord hra hrb hspec hbb
        go_wp2_with fail
        refine (rwinText_any n m _).mono ?_
        rintro e w4 ⟨t, rfl, ht, hb4⟩
        obtain ⟨k2, k3⟩ := boxed2 hb4
        have m0 : w4.cell? ⟨w.heap.size, 0, none⟩ = some (.int .i64 0) := (hb4.cell (p := ⟨w.heap.size, 0, none⟩) (by simp; omega)).trans ((World.cell?_alloc_lt w3 _ ⟨w.heap.size, 0, none⟩ hN).trans k0)
        have m1 : w4.cell? ⟨w.heap.size, 1, none⟩ = some (.int .i64 0) := (hb4.cell (p := ⟨w.heap.size, 1, none⟩) (by simp; omega)).trans ((World.cell?_alloc_lt w3 _ ⟨w.heap.size, 1, none⟩ hN).trans k1)
        have n0 : w4.frozen? ⟨w.heap.size, 0, none⟩ = false := (hb4.frozen (p := ⟨w.heap.size, 0, none⟩) (by simp; omega)).trans ((frozen_alloc_lt w3 _ ⟨w.heap.size, 0, none⟩ hN).trans f0)
        have n1 : w4.frozen? ⟨w.heap.size, 1, none⟩ = false := (hb4.frozen (p := ⟨w.heap.size, 1, none⟩) (by simp; omega)).trans ((frozen_alloc_lt w3 _ ⟨w.heap.size, 1, none⟩ hN).trans f1)
        have hB2 : Below w.heap.size w w4 := (hBB.alloc (Nat.le_of_lt hN) _).trans (hb4.mono (by simp; omega))
        clear k0 k1 f0 f1
        by_cases hq : winOut n m = bl s
        · have e1 : (t.toList == s.toList) = true := by rw [bl_toList, bl_toList, ht.out, hq, beq_iff_eq]
          have h1 := Lib.hid (pw_ok ha2.out hb2.out hlh.out hq)
          clear hq
          go_wp2
          refine bodyPost_ret (v := .tuple #[.agg #[.int .i64 n, .int .i64 m], .int .i64 0]) (by simp [results, Tryz.results107, go_sem, m0, m1, k2, k3, hN]) rfl ?_
          exact pwPost HJ.out h1.out.1 h1.out.2.1 h1.out.2.2 ((hB2.setCell (p := ⟨w.heap.size, 0, none⟩) (Nat.le_refl _) _).setCell (p := ⟨w.heap.size, 1, none⟩) (Nat.le_refl _) _)
        · have e1 : (t.toList == s.toList) = false := by rw [bl_toList, bl_toList, ht.out, beq_eq_false_iff_ne]; exact hq
          have h1 := Lib.hid (pw_form ha2.out hb2.out hlh.out hq)
          clear hq
          go_wp2
          refine bodyPost_ret (v := .tuple #[.agg #[.int .i64 0, .int .i64 0], .int .i64 4]) (by simp [results, Tryz.results107, go_sem, m0, m1, hN]) rfl ?_
          exact pwPost HJ.out h1.out.1 h1.out.2.1 h1.out.2.2 ((hB2.setCell (p := ⟨w.heap.size, 0, none⟩) (Nat.le_refl _) _).setCell (p := ⟨w.heap.size, 1, none⟩) (Nat.le_refl _) _)
      · have hD : Hid (Below (w.alloc (.cells #[.int .i64 0, .int .i64 0] 72)).heap.size (w.alloc (.cells #[.int .i64 0, .int .i64 0] 72)) wr) := hbr.below; have HP := HQ
        go_wp2_with fail
        refine (altForm_any s _ (by omega)).mono ?_
        rintro e w2 ⟨n, fA, iA, rfl, hA, hbA⟩
        go_wp2_with fail
        refine (altForm_any s _ (by omega)).mono ?_
        rintro e w3 ⟨m, fB, iB, rfl, hB, hbB⟩
        have hb3 := Below.then_ (Below.then_ hD.out hbA) hbB
        obtain ⟨k0, k1⟩ := boxed2 hb3
        obtain ⟨f0, f1⟩ := boxed2f hb3
        have hBB := below_box hb3
        have hN : w.heap.size < w3.heap.size := Nat.lt_of_lt_of_le (by simp) hb3.size
        have hspec := Lib.hid (pwParts_spec h.out HP.out)
        have hbb := Lib.hid ((((hBB.setCell (p := ⟨w.heap.size, 0, none⟩) (Nat.le_refl _) (.int .i64 0)).setCell (p := ⟨w.heap.size, 1, none⟩) (Nat.le_refl _) (.int .i64 0))))
        clear hbA hbB hb3
        have hA' := refRes_cases hA
        have hB' := refRes_cases hB
        clear hA hB
        rcases hA' with ⟨rfl, hA⟩ | ⟨rfl, x, hA, hiA, hnA⟩
        · go_wp2
          refine bodyPost_ret (v := .tuple #[.agg #[.int .i64 0, .int .i64 0], .int .i64 4]) (by simp [results, Tryz.results107, go_sem, k0, k1, hN]) rfl ?_
          exact pwPost (o := none) (by rw [hspec.out, hA.out]; rfl) rfl rfl rfl hbb.out
        rcases hB' with ⟨rfl, hB⟩ | ⟨rfl, y, hB, hiB, hnB⟩
        · go_wp2
          refine bodyPost_ret (v := .tuple #[.agg #[.int .i64 0, .int .i64 0], .int .i64 4]) (by simp [results, Tryz.results107, go_sem, k0, k1, hN]) rfl ?_
          exact pwPost (o := none) (by rw [hspec.out]; exact pwJoin_none2 _ _ hB.out) rfl rfl rfl hbb.out
        by_cases hrr : (iA && iB) = false
        · have hr2 : (rangedB x && rangedB y) = false := by rw [← hiA.out, ← hiB.out]; exact hrr
          obtain ⟨lo, hi, hj, hr⟩ := pwJoin_range HP.out hA.out hB.out hr2
          have hq := Lib.hid (pw_range (l := bl s) hr)
          have HJ := Lib.hid (hspec.out.trans hj)
          clear hj hr hr2 hnA hnB
          rcases hi2 : iA with _ | _
          · subst hi2
            clear hrr
            go_wp2
            refine bodyPost_ret (v := .tuple #[.agg #[.int .i64 0, .int .i64 0], .int .i64 2]) (by simp [results, Tryz.results107, go_sem, k0, k1, hN]) rfl ?_
            exact pwPost HJ.out hq.out.1 hq.out.2.1 hq.out.2.2 hbb.out
          · subst hi2
            obtain rfl : iB = false := by simpa using hrr
            clear hrr
            go_wp2
            refine bodyPost_ret (v := .tuple #[.agg #[.int .i64 0, .int .i64 0], .int .i64 2]) (by simp [results, Tryz.results107, go_sem, k0, k1, hN]) rfl ?_
            exact pwPost HJ.out hq.out.1 hq.out.2.1 hq.out.2.2 hbb.out
        obtain ⟨rfl, rfl⟩ : iA = true ∧ iB = true := by simpa using hrr
        have hra : Hid (rangedB x = true) := hiA.out.symm
        have hrb : Hid (rangedB y = true) := hiB.out.symm
        obtain rfl : n = x := hnA rfl
        obtain rfl : m = y := hnB rfl
        clear hrr hnA hnB hiA hiB
        by_cases hord : m < n
        · have hq := Lib.hid (pw_order (l := bl s) hra.out hrb.out hord)
          have HJ := Lib.hid (hspec.out.trans (pwJoin_order HP.out hA.out hB.out hord))
          go_wp2
          refine bodyPost_ret (v := .tuple #[.agg #[.int .i64 0, .int .i64 0], .int .i64 9]) (by simp [results, Tryz.results107, go_sem, k0, k1, hN]) rfl ?_
          exact pwPost HJ.out hq.out.1 hq.out.2.1 hq.out.2.2 hbb.out
        have hord' : n ≤ m := by omega
        have ha2 : Hid (rangedB n = true) := hra
        have hb2 : Hid (rangedB m = true) := hrb
        have hlh : Hid (n ≤ m) := hord'
        have HJ : Hid (winSpec (bl s) = some (n, m)) := hspec.out.trans (pwJoin_some _ hA.out hB.out)
        clear hord hra hrb hspec hbb
        go_wp2_with fail
        refine (rwinText_any n m _).mono ?_
        rintro e w4 ⟨t, rfl, ht, hb4⟩
        obtain ⟨k2, k3⟩ := boxed2 hb4
        have m0 : w4.cell? ⟨w.heap.size, 0, none⟩ = some (.int .i64 0) := (hb4.cell (p := ⟨w.heap.size, 0, none⟩) (by simp; omega)).trans ((World.cell?_alloc_lt w3 _ ⟨w.heap.size, 0, none⟩ hN).trans k0)
        have m1 : w4.cell? ⟨w.heap.size, 1, none⟩ = some (.int .i64 0) := (hb4.cell (p := ⟨w.heap.size, 1, none⟩) (by simp; omega)).trans ((World.cell?_alloc_lt w3 _ ⟨w.heap.size, 1, none⟩ hN).trans k1)
        have n0 : w4.frozen? ⟨w.heap.size, 0, none⟩ = false := (hb4.frozen (p := ⟨w.heap.size, 0, none⟩) (by simp; omega)).trans ((frozen_alloc_lt w3 _ ⟨w.heap.size, 0, none⟩ hN).trans f0)
        have n1 : w4.frozen? ⟨w.heap.size, 1, none⟩ = false := (hb4.frozen (p := ⟨w.heap.size, 1, none⟩) (by simp; omega)).trans ((frozen_alloc_lt w3 _ ⟨w.heap.size, 1, none⟩ hN).trans f1)
        have hB2 : Below w.heap.size w w4 := (hBB.alloc (Nat.le_of_lt hN) _).trans (hb4.mono (by simp; omega))
        clear k0 k1 f0 f1
        by_cases hq : winOut n m = bl s
        · have e1 : (t.toList == s.toList) = true := by rw [bl_toList, bl_toList, ht.out, hq, beq_iff_eq]
          have h1 := Lib.hid (pw_ok ha2.out hb2.out hlh.out hq)
          clear hq
          go_wp2
          refine bodyPost_ret (v := .tuple #[.agg #[.int .i64 n, .int .i64 m], .int .i64 0]) (by simp [results, Tryz.results107, go_sem, m0, m1, k2, k3, hN]) rfl ?_
          exact pwPost HJ.out h1.out.1 h1.out.2.1 h1.out.2.2 ((hB2.setCell (p := ⟨w.heap.size, 0, none⟩) (Nat.le_refl _) _).setCell (p := ⟨w.heap.size, 1, none⟩) (Nat.le_refl _) _)
        · have e1 : (t.toList == s.toList) = false := by rw [bl_toList, bl_toList, ht.out, beq_eq_false_iff_ne]; exact hq
          have h1 := Lib.hid (pw_form ha2.out hb2.out hlh.out hq)
          clear hq
          go_wp2
          refine bodyPost_ret (v := .tuple #[.agg #[.int .i64 0, .int .i64 0], .int .i64 4]) (by simp [results, Tryz.results107, go_sem, m0, m1, hN]) rfl ?_
          exact pwPost HJ.out h1.out.1 h1.out.2.1 h1.out.2.2 ((hB2.setCell (p := ⟨w.heap.size, 0, none⟩) (Nat.le_refl _) _).setCell (p := ⟨w.heap.size, 1, none⟩) (Nat.le_refl _) _)
      · go_wp2; go_quiet (fail); generalize hx : s.extract 0 (s.size - 1) = x; have HP : Hid (PwParts (bl s) (bl x) (bl x) 1) := (by rw [← hx]; exact HQ.out); have hxs : x.size ≤ s.size := (by rw [← hx, ByteArray.size_extract]; omega); have hD : Hid (Below (w.alloc (.cells #[.int .i64 0, .int .i64 0] 72)).heap.size (w.alloc (.cells #[.int .i64 0, .int .i64 0] 72)) (wr.drewN nq)) := (hbr.more nq).below
        go_wp2_with fail
        refine (altForm_any x _ (by omega)).mono ?_
        rintro e w2 ⟨n, fA, iA, rfl, hA, hbA⟩
        go_wp2_with fail
        refine (altForm_any x _ (by omega)).mono ?_
        rintro e w3 ⟨m, fB, iB, rfl, hB, hbB⟩
        have hb3 := Below.then_ (Below.then_ hD.out hbA) hbB
        obtain ⟨k0, k1⟩ := boxed2 hb3
        obtain ⟨f0, f1⟩ := boxed2f hb3
        have hBB := below_box hb3
        have hN : w.heap.size < w3.heap.size := Nat.lt_of_lt_of_le (by simp) hb3.size
        have hspec := Lib.hid (pwParts_spec h.out HP.out)
        have hbb := Lib.hid ((((hBB.setCell (p := ⟨w.heap.size, 0, none⟩) (Nat.le_refl _) (.int .i64 0)).setCell (p := ⟨w.heap.size, 1, none⟩) (Nat.le_refl _) (.int .i64 0))))
        clear hbA hbB hb3
        have hA' := refRes_cases hA
        have hB' := refRes_cases hB
        clear hA hB
        rcases hA' with ⟨rfl, hA⟩ | ⟨rfl, x, hA, hiA, hnA⟩
        · go_wp2
          refine bodyPost_ret (v := .tuple #[.agg #[.int .i64 0, .int .i64 0], .int .i64 4]) (by simp [results, Tryz.results107, go_sem, k0, k1, hN]) rfl ?_
          exact pwPost (o := none) (by rw [hspec.out, hA.out]; rfl) rfl rfl rfl hbb.out
        rcases hB' with ⟨rfl, hB⟩ | ⟨rfl, y, hB, hiB, hnB⟩
        · go_wp2
          refine bodyPost_ret (v := .tuple #[.agg #[.int .i64 0, .int .i64 0], .int .i64 4]) (by simp [results, Tryz.results107, go_sem, k0, k1, hN]) rfl ?_
          exact pwPost (o := none) (by rw [hspec.out]; exact pwJoin_none2 _ _ hB.out) rfl rfl rfl hbb.out
        by_cases hrr : (iA && iB) = false
        · have hr2 : (rangedB x && rangedB y) = false := by rw [← hiA.out, ← hiB.out]; exact hrr
          obtain ⟨lo, hi, hj, hr⟩ := pwJoin_range HP.out hA.out hB.out hr2
          have hq := Lib.hid (pw_range (l := bl s) hr)
          have HJ := Lib.hid (hspec.out.trans hj)
          clear hj hr hr2 hnA hnB
          rcases hi2 : iA with _ | _
          · subst hi2
            clear hrr
            go_wp2
            refine bodyPost_ret (v := .tuple #[.agg #[.int .i64 0, .int .i64 0], .int .i64 2]) (by simp [results, Tryz.results107, go_sem, k0, k1, hN]) rfl ?_
            exact pwPost HJ.out hq.out.1 hq.out.2.1 hq.out.2.2 hbb.out
          · subst hi2
            obtain rfl : iB = false := by simpa using hrr
            clear hrr
            go_wp2
            refine bodyPost_ret (v := .tuple #[.agg #[.int .i64 0, .int .i64 0], .int .i64 2]) (by simp [results, Tryz.results107, go_sem, k0, k1, hN]) rfl ?_
            exact pwPost HJ.out hq.out.1 hq.out.2.1 hq.out.2.2 hbb.out
        obtain ⟨rfl, rfl⟩ : iA = true ∧ iB = true := by simpa using hrr
        have hra : Hid (rangedB x = true) := hiA.out.symm
        have hrb : Hid (rangedB y = true) := hiB.out.symm
        obtain rfl : n = x := hnA rfl
        obtain rfl : m = y := hnB rfl
        clear hrr hnA hnB hiA hiB
        by_cases hord : m < n
        · have hq := Lib.hid (pw_order (l := bl s) hra.out hrb.out hord)
          have HJ := Lib.hid (hspec.out.trans (pwJoin_order HP.out hA.out hB.out hord))
          go_wp2
          refine bodyPost_ret (v := .tuple #[.agg #[.int .i64 0, .int .i64 0], .int .i64 9]) (by simp [results, Tryz.results107, go_sem, k0, k1, hN]) rfl ?_
          exact pwPost HJ.out hq.out.1 hq.out.2.1 hq.out.2.2 hbb.out
        have hord' : n ≤ m := by omega
        have ha2 : Hid (rangedB n = true) := hra
        have hb2 : Hid (rangedB 6000000 = true) := (show rangedB 6000000 = true by decide)
        have hlh : Hid (n ≤ 6000000) := (ranged_ends hra.out).2
        have HJ : Hid (winSpec (bl s) = some (n, 6000000)) := hspec.out.trans (pwJoin_some _ hA.out hB.out)
        clear hord hra hrb hspec hbb
        go_wp2_with fail
        refine (rwinText_any n 6000000 _).mono ?_
        rintro e w4 ⟨t, rfl, ht, hb4⟩
        obtain ⟨k2, k3⟩ := boxed2 hb4
        have m0 : w4.cell? ⟨w.heap.size, 0, none⟩ = some (.int .i64 0) := (hb4.cell (p := ⟨w.heap.size, 0, none⟩) (by simp; omega)).trans ((World.cell?_alloc_lt w3 _ ⟨w.heap.size, 0, none⟩ hN).trans k0)
        have m1 : w4.cell? ⟨w.heap.size, 1, none⟩ = some (.int .i64 0) := (hb4.cell (p := ⟨w.heap.size, 1, none⟩) (by simp; omega)).trans ((World.cell?_alloc_lt w3 _ ⟨w.heap.size, 1, none⟩ hN).trans k1)
        have n0 : w4.frozen? ⟨w.heap.size, 0, none⟩ = false := (hb4.frozen (p := ⟨w.heap.size, 0, none⟩) (by simp; omega)).trans ((frozen_alloc_lt w3 _ ⟨w.heap.size, 0, none⟩ hN).trans f0)
        have n1 : w4.frozen? ⟨w.heap.size, 1, none⟩ = false := (hb4.frozen (p := ⟨w.heap.size, 1, none⟩) (by simp; omega)).trans ((frozen_alloc_lt w3 _ ⟨w.heap.size, 1, none⟩ hN).trans f1)
        have hB2 : Below w.heap.size w w4 := (hBB.alloc (Nat.le_of_lt hN) _).trans (hb4.mono (by simp; omega))
        clear k0 k1 f0 f1
        by_cases hq : winOut n 6000000 = bl s
        · have e1 : (t.toList == s.toList) = true := by rw [bl_toList, bl_toList, ht.out, hq, beq_iff_eq]
          have h1 := Lib.hid (pw_ok ha2.out hb2.out hlh.out hq)
          clear hq
          go_wp2
          refine bodyPost_ret (v := .tuple #[.agg #[.int .i64 n, .int .i64 6000000], .int .i64 0]) (by simp [results, Tryz.results107, go_sem, m0, m1, k2, k3, hN]) rfl ?_
          exact pwPost HJ.out h1.out.1 h1.out.2.1 h1.out.2.2 ((hB2.setCell (p := ⟨w.heap.size, 0, none⟩) (Nat.le_refl _) _).setCell (p := ⟨w.heap.size, 1, none⟩) (Nat.le_refl _) _)
        · have e1 : (t.toList == s.toList) = false := by rw [bl_toList, bl_toList, ht.out, beq_eq_false_iff_ne]; exact hq
          have h1 := Lib.hid (pw_form ha2.out hb2.out hlh.out hq)
          clear hq
          go_wp2
          refine bodyPost_ret (v := .tuple #[.agg #[.int .i64 0, .int .i64 0], .int .i64 4]) (by simp [results, Tryz.results107, go_sem, m0, m1, hN]) rfl ?_
          exact pwPost HJ.out h1.out.1 h1.out.2.1 h1.out.2.2 ((hB2.setCell (p := ⟨w.heap.size, 0, none⟩) (Nat.le_refl _) _).setCell (p := ⟨w.heap.size, 1, none⟩) (Nat.le_refl _) _)
      · go_wp2; go_quiet (fail); generalize hx : s.extract 0 (s.size - 1) = x; have HP : Hid (PwParts (bl s) (bl x) (bl x) 2) := (by rw [← hx]; exact HQ.out); have hxs : x.size ≤ s.size := (by rw [← hx, ByteArray.size_extract]; omega); have hD : Hid (Below (w.alloc (.cells #[.int .i64 0, .int .i64 0] 72)).heap.size (w.alloc (.cells #[.int .i64 0, .int .i64 0] 72)) (wr.drewN nq)) := (hbr.more nq).below
        go_wp2_with fail
        refine (altForm_any x _ (by omega)).mono ?_
        rintro e w2 ⟨n, fA, iA, rfl, hA, hbA⟩
        go_wp2_with fail
        refine (altForm_any x _ (by omega)).mono ?_
        rintro e w3 ⟨m, fB, iB, rfl, hB, hbB⟩
        have hb3 := Below.then_ (Below.then_ hD.out hbA) hbB
        obtain ⟨k0, k1⟩ := boxed2 hb3
        obtain ⟨f0, f1⟩ := boxed2f hb3
        have hBB := below_box hb3
        have hN : w.heap.size < w3.heap.size := Nat.lt_of_lt_of_le (by simp) hb3.size
        have hspec := Lib.hid (pwParts_spec h.out HP.out)
        have hbb := Lib.hid ((((hBB.setCell (p := ⟨w.heap.size, 0, none⟩) (Nat.le_refl _) (.int .i64 0)).setCell (p := ⟨w.heap.size, 1, none⟩) (Nat.le_refl _) (.int .i64 0))))
        clear hbA hbB hb3
        have hA' := refRes_cases hA
        have hB' := refRes_cases hB
        clear hA hB
        rcases hA' with ⟨rfl, hA⟩ | ⟨rfl, x, hA, hiA, hnA⟩
        · go_wp2
          refine bodyPost_ret (v := .tuple #[.agg #[.int .i64 0, .int .i64 0], .int .i64 4]) (by simp [results, Tryz.results107, go_sem, k0, k1, hN]) rfl ?_
          exact pwPost (o := none) (by rw [hspec.out, hA.out]; rfl) rfl rfl rfl hbb.out
        rcases hB' with ⟨rfl, hB⟩ | ⟨rfl, y, hB, hiB, hnB⟩
        · go_wp2
          refine bodyPost_ret (v := .tuple #[.agg #[.int .i64 0, .int .i64 0], .int .i64 4]) (by simp [results, Tryz.results107, go_sem, k0, k1, hN]) rfl ?_
          exact pwPost (o := none) (by rw [hspec.out]; exact pwJoin_none2 _ _ hB.out) rfl rfl rfl hbb.out
        by_cases hrr : (iA && iB) = false
        · have hr2 : (rangedB x && rangedB y) = false := by rw [← hiA.out, ← hiB.out]; exact hrr
          obtain ⟨lo, hi, hj, hr⟩ := pwJoin_range HP.out hA.out hB.out hr2
          have hq := Lib.hid (pw_range (l := bl s) hr)
          have HJ := Lib.hid (hspec.out.trans hj)
          clear hj hr hr2 hnA hnB
          rcases hi2 : iA with _ | _
          · subst hi2
            clear hrr
            go_wp2
            refine bodyPost_ret (v := .tuple #[.agg #[.int .i64 0, .int .i64 0], .int .i64 2]) (by simp [results, Tryz.results107, go_sem, k0, k1, hN]) rfl ?_
            exact pwPost HJ.out hq.out.1 hq.out.2.1 hq.out.2.2 hbb.out
          · subst hi2
            obtain rfl : iB = false := by simpa using hrr
            clear hrr
            go_wp2
            refine bodyPost_ret (v := .tuple #[.agg #[.int .i64 0, .int .i64 0], .int .i64 2]) (by simp [results, Tryz.results107, go_sem, k0, k1, hN]) rfl ?_
            exact pwPost HJ.out hq.out.1 hq.out.2.1 hq.out.2.2 hbb.out
        obtain ⟨rfl, rfl⟩ : iA = true ∧ iB = true := by simpa using hrr
        have hra : Hid (rangedB x = true) := hiA.out.symm
        have hrb : Hid (rangedB y = true) := hiB.out.symm
        obtain rfl : n = x := hnA rfl
        obtain rfl : m = y := hnB rfl
        clear hrr hnA hnB hiA hiB
        by_cases hord : m < n
        · have hq := Lib.hid (pw_order (l := bl s) hra.out hrb.out hord)
          have HJ := Lib.hid (hspec.out.trans (pwJoin_order HP.out hA.out hB.out hord))
          go_wp2
          refine bodyPost_ret (v := .tuple #[.agg #[.int .i64 0, .int .i64 0], .int .i64 9]) (by simp [results, Tryz.results107, go_sem, k0, k1, hN]) rfl ?_
          exact pwPost HJ.out hq.out.1 hq.out.2.1 hq.out.2.2 hbb.out
        have hord' : n ≤ m := by omega
        have ha2 : Hid (rangedB (-200000) = true) := (show rangedB (-200000) = true by decide)
        have hb2 : Hid (rangedB m = true) := hrb
        have hlh : Hid ((-200000) ≤ m) := (ranged_ends hrb.out).1
        have HJ : Hid (winSpec (bl s) = some ((-200000), m)) := hspec.out.trans (pwJoin_some _ hA.out hB.out)
        clear hord hra hrb hspec hbb
        go_wp2_with fail
        refine (rwinText_any (-200000) m _).mono ?_
        rintro e w4 ⟨t, rfl, ht, hb4⟩
        obtain ⟨k2, k3⟩ := boxed2 hb4
        have m0 : w4.cell? ⟨w.heap.size, 0, none⟩ = some (.int .i64 0) := (hb4.cell (p := ⟨w.heap.size, 0, none⟩) (by simp; omega)).trans ((World.cell?_alloc_lt w3 _ ⟨w.heap.size, 0, none⟩ hN).trans k0)
        have m1 : w4.cell? ⟨w.heap.size, 1, none⟩ = some (.int .i64 0) := (hb4.cell (p := ⟨w.heap.size, 1, none⟩) (by simp; omega)).trans ((World.cell?_alloc_lt w3 _ ⟨w.heap.size, 1, none⟩ hN).trans k1)
        have n0 : w4.frozen? ⟨w.heap.size, 0, none⟩ = false := (hb4.frozen (p := ⟨w.heap.size, 0, none⟩) (by simp; omega)).trans ((frozen_alloc_lt w3 _ ⟨w.heap.size, 0, none⟩ hN).trans f0)
        have n1 : w4.frozen? ⟨w.heap.size, 1, none⟩ = false := (hb4.frozen (p := ⟨w.heap.size, 1, none⟩) (by simp; omega)).trans ((frozen_alloc_lt w3 _ ⟨w.heap.size, 1, none⟩ hN).trans f1)
        have hB2 : Below w.heap.size w w4 := (hBB.alloc (Nat.le_of_lt hN) _).trans (hb4.mono (by simp; omega))
        clear k0 k1 f0 f1
        by_cases hq : winOut (-200000) m = bl s
        · have e1 : (t.toList == s.toList) = true := by rw [bl_toList, bl_toList, ht.out, hq, beq_iff_eq]
          have h1 := Lib.hid (pw_ok ha2.out hb2.out hlh.out hq)
          clear hq
          go_wp2
          refine bodyPost_ret (v := .tuple #[.agg #[.int .i64 (-200000), .int .i64 m], .int .i64 0]) (by simp [results, Tryz.results107, go_sem, m0, m1, k2, k3, hN]) rfl ?_
          exact pwPost HJ.out h1.out.1 h1.out.2.1 h1.out.2.2 ((hB2.setCell (p := ⟨w.heap.size, 0, none⟩) (Nat.le_refl _) _).setCell (p := ⟨w.heap.size, 1, none⟩) (Nat.le_refl _) _)
        · have e1 : (t.toList == s.toList) = false := by rw [bl_toList, bl_toList, ht.out, beq_eq_false_iff_ne]; exact hq
          have h1 := Lib.hid (pw_form ha2.out hb2.out hlh.out hq)
          clear hq
          go_wp2
          refine bodyPost_ret (v := .tuple #[.agg #[.int .i64 0, .int .i64 0], .int .i64 4]) (by simp [results, Tryz.results107, go_sem, m0, m1, hN]) rfl ?_
          exact pwPost HJ.out h1.out.1 h1.out.2.1 h1.out.2.2 ((hB2.setCell (p := ⟨w.heap.size, 0, none⟩) (Nat.le_refl _) _).setCell (p := ⟨w.heap.size, 1, none⟩) (Nat.le_refl _) _)
      · have hD : Hid (Below (w.alloc (.cells #[.int .i64 0, .int .i64 0] 72)).heap.size (w.alloc (.cells #[.int .i64 0, .int .i64 0] 72)) wr) := hbr.below; have HP := HQ
        go_wp2_with fail
        refine (altForm_any s _ (by omega)).mono ?_
        rintro e w2 ⟨n, fA, iA, rfl, hA, hbA⟩
        go_wp2_with fail
        refine (altForm_any s _ (by omega)).mono ?_
        rintro e w3 ⟨m, fB, iB, rfl, hB, hbB⟩
        have hb3 := Below.then_ (Below.then_ hD.out hbA) hbB
        obtain ⟨k0, k1⟩ := boxed2 hb3
        obtain ⟨f0, f1⟩ := boxed2f hb3
        have hBB := below_box hb3
        have hN : w.heap.size < w3.heap.size := Nat.lt_of_lt_of_le (by simp) hb3.size
        have hspec := Lib.hid (pwParts_spec h.out HP.out)
        have hbb := Lib.hid ((((hBB.setCell (p := ⟨w.heap.size, 0, none⟩) (Nat.le_refl _) (.int .i64 0)).setCell (p := ⟨w.heap.size, 1, none⟩) (Nat.le_refl _) (.int .i64 0))))
        clear hbA hbB hb3
        have hA' := refRes_cases hA
        have hB' := refRes_cases hB
        clear hA hB
        rcases hA' with ⟨rfl, hA⟩ | ⟨rfl, x, hA, hiA, hnA⟩
        · go_wp2
          refine bodyPost_ret (v := .tuple #[.agg #[.int .i64 0, .int .i64 0], .int .i64 4]) (by simp [results, Tryz.results107, go_sem, k0, k1, hN]) rfl ?_
          exact pwPost (o := none) (by rw [hspec.out, hA.out]; rfl) rfl rfl rfl hbb.out
        rcases hB' with ⟨rfl, hB⟩ | ⟨rfl, y, hB, hiB, hnB⟩
        · go_wp2
          refine bodyPost_ret (v := .tuple #[.agg #[.int .i64 0, .int .i64 0], .int .i64 4]) (by simp [results, Tryz.results107, go_sem, k0, k1, hN]) rfl ?_
          exact pwPost (o := none) (by rw [hspec.out]; exact pwJoin_none2 _ _ hB.out) rfl rfl rfl hbb.out
        by_cases hrr : (iA && iB) = false
        · have hr2 : (rangedB x && rangedB y) = false := by rw [← hiA.out, ← hiB.out]; exact hrr
          obtain ⟨lo, hi, hj, hr⟩ := pwJoin_range HP.out hA.out hB.out hr2
          have hq := Lib.hid (pw_range (l := bl s) hr)
          have HJ := Lib.hid (hspec.out.trans hj)
          clear hj hr hr2 hnA hnB
          rcases hi2 : iA with _ | _
          · subst hi2
            clear hrr
            go_wp2
            refine bodyPost_ret (v := .tuple #[.agg #[.int .i64 0, .int .i64 0], .int .i64 2]) (by simp [results, Tryz.results107, go_sem, k0, k1, hN]) rfl ?_
            exact pwPost HJ.out hq.out.1 hq.out.2.1 hq.out.2.2 hbb.out
          · subst hi2
            obtain rfl : iB = false := by simpa using hrr
            clear hrr
            go_wp2
            refine bodyPost_ret (v := .tuple #[.agg #[.int .i64 0, .int .i64 0], .int .i64 2]) (by simp [results, Tryz.results107, go_sem, k0, k1, hN]) rfl ?_
            exact pwPost HJ.out hq.out.1 hq.out.2.1 hq.out.2.2 hbb.out
        obtain ⟨rfl, rfl⟩ : iA = true ∧ iB = true := by simpa using hrr
        have hra : Hid (rangedB x = true) := hiA.out.symm
        have hrb : Hid (rangedB y = true) := hiB.out.symm
        obtain rfl : n = x := hnA rfl
        obtain rfl : m = y := hnB rfl
        clear hrr hnA hnB hiA hiB
        by_cases hord : m < n
        · have hq := Lib.hid (pw_order (l := bl s) hra.out hrb.out hord)
          have HJ := Lib.hid (hspec.out.trans (pwJoin_order HP.out hA.out hB.out hord))
          go_wp2
          refine bodyPost_ret (v := .tuple #[.agg #[.int .i64 0, .int .i64 0], .int .i64 9]) (by simp [results, Tryz.results107, go_sem, k0, k1, hN]) rfl ?_
          exact pwPost HJ.out hq.out.1 hq.out.2.1 hq.out.2.2 hbb.out
        have hord' : n ≤ m := by omega
        have ha2 : Hid (rangedB n = true) := hra
        have hb2 : Hid (rangedB m = true) := hrb
        have hlh : Hid (n ≤ m) := hord'
        have HJ : Hid (winSpec (bl s) = some (n, m)) := hspec.out.trans (pwJoin_some _ hA.out hB.out)
        clear hord hra hrb hspec hbb
        go_wp2_with fail
        refine (rwinText_any n m _).mono ?_
        rintro e w4 ⟨t, rfl, ht, hb4⟩
        obtain ⟨k2, k3⟩ := boxed2 hb4
        have m0 : w4.cell? ⟨w.heap.size, 0, none⟩ = some (.int .i64 0) := (hb4.cell (p := ⟨w.heap.size, 0, none⟩) (by simp; omega)).trans ((World.cell?_alloc_lt w3 _ ⟨w.heap.size, 0, none⟩ hN).trans k0)
        have m1 : w4.cell? ⟨w.heap.size, 1, none⟩ = some (.int .i64 0) := (hb4.cell (p := ⟨w.heap.size, 1, none⟩) (by simp; omega)).trans ((World.cell?_alloc_lt w3 _ ⟨w.heap.size, 1, none⟩ hN).trans k1)
        have n0 : w4.frozen? ⟨w.heap.size, 0, none⟩ = false := (hb4.frozen (p := ⟨w.heap.size, 0, none⟩) (by simp; omega)).trans ((frozen_alloc_lt w3 _ ⟨w.heap.size, 0, none⟩ hN).trans f0)
        have n1 : w4.frozen? ⟨w.heap.size, 1, none⟩ = false := (hb4.frozen (p := ⟨w.heap.size, 1, none⟩) (by simp; omega)).trans ((frozen_alloc_lt w3 _ ⟨w.heap.size, 1, none⟩ hN).trans f1)
        have hB2 : Below w.heap.size w w4 := (hBB.alloc (Nat.le_of_lt hN) _).trans (hb4.mono (by simp; omega))
        clear k0 k1 f0 f1
        by_cases hq : winOut n m = bl s
        · have e1 : (t.toList == s.toList) = true := by rw [bl_toList, bl_toList, ht.out, hq, beq_iff_eq]
          have h1 := Lib.hid (pw_ok ha2.out hb2.out hlh.out hq)
          clear hq
          go_wp2
          refine bodyPost_ret (v := .tuple #[.agg #[.int .i64 n, .int .i64 m], .int .i64 0]) (by simp [results, Tryz.results107, go_sem, m0, m1, k2, k3, hN]) rfl ?_
          exact pwPost HJ.out h1.out.1 h1.out.2.1 h1.out.2.2 ((hB2.setCell (p := ⟨w.heap.size, 0, none⟩) (Nat.le_refl _) _).setCell (p := ⟨w.heap.size, 1, none⟩) (Nat.le_refl _) _)
        · have e1 : (t.toList == s.toList) = false := by rw [bl_toList, bl_toList, ht.out, beq_eq_false_iff_ne]; exact hq
          have h1 := Lib.hid (pw_form ha2.out hb2.out hlh.out hq)
          clear hq
          go_wp2
          refine bodyPost_ret (v := .tuple #[.agg #[.int .i64 0, .int .i64 0], .int .i64 4]) (by simp [results, Tryz.results107, go_sem, m0, m1, hN]) rfl ?_
          exact pwPost HJ.out h1.out.1 h1.out.2.1 h1.out.2.2 ((hB2.setCell (p := ⟨w.heap.size, 0, none⟩) (Nat.le_refl _) _).setCell (p := ⟨w.heap.size, 1, none⟩) (Nat.le_refl _) _)
theorem rparseWindow_any (s : ByteArray) (w : World) (hs : s.size ≤ 140737488351232) :
    Calls Tryz.prog 107 #[.string s] w (PwPost s w) := by
  cases h : (s.toList == [45])
  · exact rparseWindow_else s w hs h
  · exact rparseWindow_dash s w h
end Go.Proofs.YtinkdlmikhcpjaaGreatDoor
namespace Go.Proofs.YtinkdlmikhcpjaaGreatDoor
open Go.RowKit
set_option linter.unusedVariables false
set_option linter.unusedSimpArgs false

def winSLo (l : List UInt8) : Int := pwLo l (winSpec l)
def winSHi (l : List UInt8) : Int := pwHi l (winSpec l)
def winSEr (l : List UInt8) : Int := pwErr l (winSpec l)
theorem winS_zero {l : List UInt8} (h : winSEr l ≠ 0) : winSLo l = 0 ∧ winSHi l = 0 := by
  unfold winSEr at h
  unfold winSLo winSHi
  revert h
  unfold pwErr pwLo pwHi
  cases winSpec l with
  | none => intro _; exact ⟨rfl, rfl⟩
  | some v =>
    obtain ⟨a, b⟩ := v
    simp only []
    intro h
    by_cases h1 : (rangedB a && rangedB b) = true
    · rw [if_pos h1] at h
      by_cases h2 : a ≤ b
      · rw [if_pos h2] at h
        by_cases h3 : (winOut a b == l) = true
        · rw [if_pos h3] at h; exact absurd rfl h
        · have h3' := Bool.not_eq_true _ ▸ h3
          rw [Bool.not_eq_true] at h3
          rw [h3, Bool.and_false]; exact ⟨rfl, rfl⟩
      · rw [decide_eq_false h2, Bool.and_false, Bool.false_and]; exact ⟨rfl, rfl⟩
    · rw [Bool.not_eq_true] at h1
      rw [h1, Bool.false_and, Bool.false_and]; exact ⟨rfl, rfl⟩
def WinSPost (s : Sc) (g : Nat) (w : World) (e : Ending) (w' : World) : Prop :=
  e = .returned (.agg #[.int .i64 (s.tv 0 winSLo), .int .i64 (s.tv 0 winSHi)]) ∧ ScPost (s.tk winSEr) g w w'
theorem WinSPost.mk {s : Sc} {g : Nat} {w w' : World} {a b : Int} (h1 : s.tv 0 winSLo = a) (h2 : s.tv 0 winSHi = b) (h : ScPost (s.tk winSEr) g w w') : WinSPost s g w (.returned (.agg #[.int .i64 a, .int .i64 b])) w' := by
  unfold WinSPost; rw [h1, h2]; exact ⟨rfl, h⟩
def RWinSPost (s : Sc) (g : Nat) (w : World) (e : Ending) (w' : World) : Prop :=
  e = .returned (.agg #[.int .i64 (s.tv 0 winSLo), .int .i64 (s.tv 0 winSHi)]) ∧ ScQPost (s.tk winSEr) g w w'
theorem RWinSPost.mk {s : Sc} {g : Nat} {w w' : World} {a b : Int} (h1 : s.tv 0 winSLo = a) (h2 : s.tv 0 winSHi = b) (h : ScQPost (s.tk winSEr) g w w') : RWinSPost s g w (.returned (.agg #[.int .i64 a, .int .i64 b])) w' := by
  unfold RWinSPost; rw [h1, h2]; exact ⟨rfl, h⟩
set_option maxRecDepth 100000 in
set_option maxHeartbeats 1000000 in
theorem takenWin_any (s : Sc) (g : Nat) (w : World) (E : Env w) (hg0 : 8 ≤ g) (hts : s.text.length ≤ 140737488351232) (h : ScP w g s) :
    Calls Tryz.prog 143 #[.pointer (some ⟨g, 0, none⟩), .func (.func 144) #[] #[]] w (WinSPost s g w) := by
  have hgs := h.lt
  have H : Hid (ScP ((w.alloc (.cells #[.int .i64 0, .int .i64 0] 72)).alloc (.cells #[.int .i64 0, .int .i64 0] 72)) g s) := (h.alloc _).alloc _
  have O1 : OwnB ((w.alloc (.cells #[.int .i64 0, .int .i64 0] 72)).alloc (.cells #[.int .i64 0, .int .i64 0] 72)) w.heap.size 0 0 72 :=
    (((Below.refl _ _).alloc (Nat.le_refl _) _).block w.heap.size (by simp)).trans (heap_alloc_new w _)
  have O2 : OwnB ((w.alloc (.cells #[.int .i64 0, .int .i64 0] 72)).alloc (.cells #[.int .i64 0, .int .i64 0] 72)) (w.heap.size + 1) 0 0 72 := by
    have := heap_alloc_new (w.alloc (.cells #[.int .i64 0, .int .i64 0] 72)) (.cells #[.int .i64 0, .int .i64 0] 72)
    rw [show (w.alloc (.cells #[.int .i64 0, .int .i64 0] 72)).heap.size = w.heap.size + 1 by simp] at this
    exact this
  have HOFF : Hid (Off g w ((w.alloc (.cells #[.int .i64 0, .int .i64 0] 72)).alloc (.cells #[.int .i64 0, .int .i64 0] 72))) := ((Off.refl g w).alloc _).alloc _
  have HO1 := Lib.hid O1
  have HO2 := Lib.hid O2
  clear h O1 O2
  cases hg : s.got
  · have HG := Lib.hid hg
    have HF1 := Lib.hid (Sc.tv_no hg (0 : Int) winSLo)
    have HF2 := Lib.hid (Sc.tv_no hg (0 : Int) winSHi)
    have HF3 := Lib.hid (Sc.tk_no hg winSEr)
    clear hg
    go_enter Tryz.func143, Tryz.ntmps143
    go_wp2_with fail
    refine (take_any s g _ H.out).mono ?_
    rintro e w1 ⟨rfl, hp⟩
    rw [HG.out]
    have HP := Lib.hid hp
    obtain ⟨k0, k1, k2, k3, k4⟩ := (HO1.out.off hp.2 (by omega)).facts
    obtain ⟨l0, l1, l2, l3, l4⟩ := (HO2.out.off hp.2 (by omega)).facts
    have HFIN : Hid (ScPost s.take g w ((w1.setCell ⟨w.heap.size, 0, none⟩ (.int .i64 0)).setCell ⟨w.heap.size, 1, none⟩ (.int .i64 0))) :=
      ⟨(hp.1.setNew hgs _).setNew hgs _, ((HOFF.out.trans hp.2).setNew (Nat.le_refl _) _ _).setNew (Nat.le_refl _) _ _⟩
    clear hp
    go_wp2
    exact bodyPost_ret (v := .agg #[.int .i64 0, .int .i64 0]) (by simp [results, Tryz.results143, go_sem, k0, k1, k4]) rfl (WinSPost.mk HF1.out HF2.out (by rw [HF3.out]; exact HFIN.out))
  · have HG := Lib.hid hg
    have HF1 := Lib.hid (Sc.tv_got hg (0 : Int) winSLo)
    have HF2 := Lib.hid (Sc.tv_got hg (0 : Int) winSHi)
    have HF3 := Lib.hid (Sc.tk_got hg winSEr)
    obtain ⟨t, ht⟩ : ∃ t, s.text = t := ⟨_, rfl⟩
    have hsz := text_size hts
    rw [ht] at HF1 HF2 HF3 hsz
    have HT := Lib.hid ht
    have HSZ := Lib.hid hsz
    clear hg ht hts hsz
    go_enter Tryz.func143, Tryz.ntmps143
    go_wp2_with fail
    refine (take_any s g _ H.out).mono ?_
    rintro e w1 ⟨rfl, hp⟩
    rw [HG.out, HT.out]
    have HP := Lib.hid hp
    have E1 : Env w1 := ((E.alloc _).alloc _).of_below (hp.2.below (Below.refl 8 _) hg0 ((E.alloc _).alloc _).size) (Nat.le_refl _)
    clear hp
    go_wp2_with fail
    refine (parseWindow_any (sb t) _ E1 HSZ.out).mono ?_
    rintro e w2 ⟨rfl, hb2⟩
    rw [bl_sb]
    have HP2 := Lib.hid (HP.out.then_ hb2)
    have z2 : w.heap.size + 2 ≤ w2.heap.size := by have := HP2.out.2.size; simp at this; omega
    obtain ⟨x, hx⟩ : ∃ x, winSLo t = x := ⟨_, rfl⟩
    obtain ⟨y, hy⟩ : ∃ x, winSHi t = x := ⟨_, rfl⟩
    obtain ⟨er, her⟩ : ∃ x, winSEr t = x := ⟨_, rfl⟩
    have hz : er ≠ 0 → x = 0 ∧ y = 0 := by rw [← her, ← hx, ← hy]; exact winS_zero
    rw [hx] at HF1
    rw [hy] at HF2
    rw [her] at HF3
    unfold winSLo at hx
    unfold winSHi at hy
    unfold winSEr at her
    rw [hx, hy, her]
    clear hx hy her
    have Q1 := Lib.hid (HO1.out.off HP2.out.2 (by omega))
    have Q2 := Lib.hid (HO2.out.off HP2.out.2 (by omega))
    obtain ⟨k0, k1, k2, k3, k4⟩ := Q1.out.facts
    obtain ⟨l0, l1, l2, l3, l4⟩ := Q2.out.facts
    have c3 := HP2.out.1.c3
    have hg2 := HP2.out.1.lt
    by_cases h0 : er = 0
    · have e1 : (er != 0) = false := bne_eq_false_iff_eq.2 h0
      have HE : Hid (s.tk winSEr = s.take) := by unfold Hid; rw [HF3.out, h0, Sc.note_zero]
      have HFIN : Hid (ScPost s.take g w (((w2.setCell ⟨w.heap.size, 0, none⟩ (.int .i64 x)).setCell ⟨w.heap.size, 1, none⟩ (.int .i64 y)).alloc (.cells #[.int .i64 x, .int .i64 y] 72))) :=
        ⟨((HP2.out.1.setNew hgs _).setNew hgs _).alloc _, (((HOFF.out.trans HP2.out.2).setNew (Nat.le_refl _) _ _).setNew (Nat.le_refl _) _ _).alloc _⟩
      clear h0 hz hb2
      go_wp2
      exact bodyPost_ret (v := .agg #[.int .i64 x, .int .i64 y]) (by simp [results, Tryz.results143, go_sem, k0, k1, k4]) rfl (WinSPost.mk HF1.out HF2.out (by rw [HE.out]; exact HFIN.out))
    · have e1 : (er != 0) = true := bne_iff_ne.2 h0
      obtain ⟨rfl, rfl⟩ := hz h0
      clear h0 hz hb2
      go_wp2_with fail
      refine (note_any s.take s.take.la er g _ (HP2.out.1.alloc _)).mono ?_
      rintro e w3 ⟨rfl, hp⟩
      have HP3 := Lib.hid hp
      have HO3 : Hid (Off g w2 w3) := ((Off.refl g w2).alloc _).trans hp.2
      clear k0 k1 k2 k3 k4 l0 l1 l2 l3 l4 hp
      obtain ⟨k0, k1, k2, k3, k4⟩ := (Q1.out.off HO3.out (by omega)).facts
      obtain ⟨l0, l1, l2, l3, l4⟩ := (Q2.out.off HO3.out (by omega)).facts
      have HFIN : Hid (ScPost (s.tk winSEr) g w ((w3.setCell ⟨w.heap.size, 0, none⟩ (.int .i64 0)).setCell ⟨w.heap.size, 1, none⟩ (.int .i64 0))) := by
        unfold Hid
        rw [HF3.out]
        exact ⟨(HP3.out.1.setNew hgs _).setNew hgs _, (((HOFF.out.trans HP2.out.2).trans HO3.out).setNew (Nat.le_refl _) _ _).setNew (Nat.le_refl _) _ _⟩
      go_wp2
      exact bodyPost_ret (v := .agg #[.int .i64 0, .int .i64 0]) (by simp [results, Tryz.results143, go_sem, k0, k1, k4]) rfl (WinSPost.mk HF1.out HF2.out HFIN.out)
set_option maxHeartbeats 1000000 in
theorem winS_any (s : Sc) (g : Nat) (w : World) (E : Env w) (hg0 : 8 ≤ g) (hts : s.text.length ≤ 140737488351232) (h : ScP w g s) :
    Calls Tryz.prog 102 #[.pointer (some ⟨g, 0, none⟩)] w (WinSPost s g w) := by
  have H : Hid (ScP (w.alloc (.cells #[.int .i64 0, .int .i64 0] 72)) g s) := h.alloc _
  have O1 : Hid (OwnB (w.alloc (.cells #[.int .i64 0, .int .i64 0] 72)) w.heap.size 0 0 72) := heap_alloc_new w _
  have HOFF : Hid (Off g w (w.alloc (.cells #[.int .i64 0, .int .i64 0] 72))) := (Off.refl g w).alloc _
  have hgs := h.lt
  obtain ⟨x, hx⟩ : ∃ x, s.tv 0 winSLo = x := ⟨_, rfl⟩
  obtain ⟨y, hy⟩ : ∃ x, s.tv 0 winSHi = x := ⟨_, rfl⟩
  have HX := Lib.hid hx
  have HY := Lib.hid hy
  clear h hx hy
  go_enter Tryz.func102, Tryz.ntmps102
  go_wp2_with fail
  refine (takenWin_any s g _ (E.alloc _) hg0 hts H.out).mono ?_
  rintro e w1 ⟨rfl, hp⟩
  rw [HX.out, HY.out]
  obtain ⟨k0, k1, k2, k3, k4⟩ := (O1.out.off hp.2 (by omega)).facts
  have HFIN : Hid (ScPost (s.tk winSEr) g w ((w1.setCell ⟨w.heap.size, 0, none⟩ (.int .i64 x)).setCell ⟨w.heap.size, 1, none⟩ (.int .i64 y))) :=
    ⟨(hp.1.setNew hgs _).setNew hgs _, ((HOFF.out.trans hp.2).setNew (Nat.le_refl _) _ _).setNew (Nat.le_refl _) _ _⟩
  clear hp
  go_wp2
  exact bodyPost_ret (v := .agg #[.int .i64 x, .int .i64 y]) (by simp [results, Tryz.results102, go_sem, k0, k1, k4]) rfl (WinSPost.mk HX.out HY.out HFIN.out)
set_option maxRecDepth 100000 in
set_option maxHeartbeats 1000000 in
theorem rwinS_any (s : Sc) (g : Nat) (w : World) (hts : s.text.length ≤ 140737488351232) (h : ScQ w g s) :
    Calls Tryz.prog 51 #[.pointer (some ⟨g, 0, none⟩)] w (RWinSPost s g w) := by
  have H : Hid (ScQ (w.alloc (.cells #[.int .i64 0, .int .i64 0] 72)) g s) := h.alloc _
  have O1 : Hid (OwnB (w.alloc (.cells #[.int .i64 0, .int .i64 0] 72)) w.heap.size 0 0 72) := heap_alloc_new w _
  have HOFF : Hid (Off g w (w.alloc (.cells #[.int .i64 0, .int .i64 0] 72))) := (Off.refl g w).alloc _
  have hgs := h.lt
  clear h
  cases hg : s.got
  · have HG := Lib.hid hg
    have HF1 := Lib.hid (Sc.tv_no hg (0 : Int) winSLo)
    have HF2 := Lib.hid (Sc.tv_no hg (0 : Int) winSHi)
    have HF3 := Lib.hid (Sc.tk_no hg winSEr)
    clear hg
    go_enter Tryz.func51, Tryz.ntmps51
    go_wp2_with fail
    refine (rtake_any s g _ H.out).mono ?_
    rintro e w1 ⟨rfl, hp⟩
    rw [HG.out]
    obtain ⟨k0, k1, k2, k3, k4⟩ := (O1.out.off hp.2 (by omega)).facts
    have HFIN : Hid (ScQPost s.take g w ((w1.setCell ⟨w.heap.size, 0, none⟩ (.int .i64 0)).setCell ⟨w.heap.size, 1, none⟩ (.int .i64 0))) :=
      ⟨(hp.1.setNew hgs _).setNew hgs _, ((HOFF.out.trans hp.2).setNew (Nat.le_refl _) _ _).setNew (Nat.le_refl _) _ _⟩
    clear hp
    go_wp2
    exact bodyPost_ret (v := .agg #[.int .i64 0, .int .i64 0]) (by simp [results, Tryz.results51, go_sem, k0, k1, k4]) rfl (RWinSPost.mk HF1.out HF2.out (by rw [HF3.out]; exact HFIN.out))
  · have HG := Lib.hid hg
    have HF1 := Lib.hid (Sc.tv_got hg (0 : Int) winSLo)
    have HF2 := Lib.hid (Sc.tv_got hg (0 : Int) winSHi)
    have HF3 := Lib.hid (Sc.tk_got hg winSEr)
    obtain ⟨t, ht⟩ : ∃ t, s.text = t := ⟨_, rfl⟩
    have hsz := text_size hts
    rw [ht] at HF1 HF2 HF3 hsz
    have HT := Lib.hid ht
    have HSZ := Lib.hid hsz
    clear hg ht hts hsz
    go_enter Tryz.func51, Tryz.ntmps51
    go_wp2_with fail
    refine (rtake_any s g _ H.out).mono ?_
    rintro e w1 ⟨rfl, hp⟩
    rw [HG.out, HT.out]
    have HP := Lib.hid hp
    clear hp
    go_wp2_with fail
    refine (rparseWindow_any (sb t) _ HSZ.out).mono ?_
    rintro e w2 ⟨rfl, hb2⟩
    rw [bl_sb]
    have HP2 := Lib.hid (HP.out.then_ hb2)
    have z2 : w.heap.size + 1 ≤ w2.heap.size := by have := HP2.out.2.size; simp at this; omega
    obtain ⟨x, hx⟩ : ∃ x, winSLo t = x := ⟨_, rfl⟩
    obtain ⟨y, hy⟩ : ∃ x, winSHi t = x := ⟨_, rfl⟩
    obtain ⟨er, her⟩ : ∃ x, winSEr t = x := ⟨_, rfl⟩
    rw [hx] at HF1
    rw [hy] at HF2
    rw [her] at HF3
    unfold winSLo at hx
    unfold winSHi at hy
    unfold winSEr at her
    rw [hx, hy, her]
    clear hx hy her
    have Q1 := Lib.hid (O1.out.off HP2.out.2 (by omega))
    obtain ⟨k0, k1, k2, k3, k4⟩ := Q1.out.facts
    have c3 := HP2.out.1.c3
    have hg2 := HP2.out.1.lt
    clear hb2
    go_wp2_with fail
    refine (rnote_any s.take s.take.la er g _ (HP2.out.1.alloc _)).mono ?_
    rintro e w3 ⟨rfl, hp⟩
    have HP3 := Lib.hid hp
    have HO3 : Hid (Off g w2 w3) := ((Off.refl g w2).alloc _).trans hp.2
    have P5 : OwnB (w2.alloc (.cells #[.int .i64 x, .int .i64 y] 72)) w2.heap.size x y 72 := heap_alloc_new w2 _
    clear k0 k1 k2 k3 k4
    obtain ⟨l0, l1, l2, l3, l4⟩ := (P5.off hp.2 (by omega)).facts
    obtain ⟨k0, k1, k2, k3, k4⟩ := (Q1.out.off HO3.out (by omega)).facts
    have HFIN : Hid (ScQPost (s.tk winSEr) g w ((w3.setCell ⟨w.heap.size, 0, none⟩ (.int .i64 x)).setCell ⟨w.heap.size, 1, none⟩ (.int .i64 y))) := by
      unfold Hid
      rw [HF3.out]
      exact ⟨(HP3.out.1.setNew hgs _).setNew hgs _, (((HOFF.out.trans HP2.out.2).trans HO3.out).setNew (Nat.le_refl _) _ _).setNew (Nat.le_refl _) _ _⟩
    clear hp P5
    go_wp2
    exact bodyPost_ret (v := .agg #[.int .i64 x, .int .i64 y]) (by simp [results, Tryz.results51, go_sem, k0, k1, k4]) rfl (RWinSPost.mk HF1.out HF2.out HFIN.out)
end Go.Proofs.YtinkdlmikhcpjaaGreatDoor
namespace Go.Proofs.YtinkdlmikhcpjaaGreatDoor
open Go.RowKit
set_option linter.unusedVariables false
set_option linter.unusedSimpArgs false

/-- the texts of fields in memory -/
def TxR (w : World) (v : Value) (ts : List (List UInt8)) : Prop :=
  ∃ xs : List Value, Rd w 2 v ts.length xs ∧ ∀ k (h : k < ts.length), xs[k * 2]? = some (.string (sb ts[k])) ∧ ∃ n : Int, xs[k * 2 + 1]? = some (.int .i64 n)
theorem TxR.form {w : World} {v : Value} {ts : List (List UInt8)} (h : TxR w v ts) : ∃ A c, v = .slice A ts.length c ∧ ts.length ≤ c ∧ c ≤ maxLen := by
  obtain ⟨xs, h1, _⟩ := h; exact h1.form
theorem TxR.below {w w' : World} {v : Value} {ts : List (List UInt8)} (h : TxR w v ts) (hb : Below w.heap.size w w') : TxR w' v ts := by
  obtain ⟨xs, h1, h2⟩ := h; exact ⟨xs, h1.below hb, h2⟩
theorem TxR.at_ {w : World} {v : Value} {ts : List (List UInt8)} (h : TxR w v ts) {k : Nat} (hk : k < ts.length) :
    ∃ g o c, ∃ n : Int, v = .slice (some ⟨g, o, none⟩) ts.length c ∧ g < w.heap.size ∧ w.cell? ⟨g, o + k * 2, none⟩ = some (.string (sb ts[k])) ∧ w.cell? ⟨g, o + k * 2 + 1, none⟩ = some (.int .i64 n) := by
  obtain ⟨xs, h1, h2⟩ := h
  obtain ⟨g, o, c, a, b, hv, _, hg, x1, x2, y1, y2⟩ := h1.two hk
  obtain ⟨z1, n, z2⟩ := h2 k hk
  rw [z1, Option.some.injEq] at x1
  rw [z2, Option.some.injEq] at x2
  subst x1 x2
  exact ⟨g, o, c, n, hv, hg, y1, y2⟩
theorem TxR.of_flds {w : World} {v : Value} {l : List Fld} (h : Rd w 2 v l.length (fcells l)) : TxR w v (l.map (·.1)) := by
  refine ⟨fcells l, by rw [List.length_map]; exact h, fun k hk => ?_⟩
  rw [List.length_map] at hk
  rw [List.getElem_map]
  exact ⟨(fcells_at l k hk).1, _, (fcells_at l k hk).2⟩
/-- records in memory, of which the fields' texts count -/
def LnR (w : World) (v : Value) (L : List (List (List UInt8))) : Prop :=
  ∃ xs : List Value, Rd w 2 v L.length xs ∧ ∀ k (h : k < L.length), ∃ (n : Int) (fv : Value), xs[k * 2]? = some (.int .i64 n) ∧ xs[k * 2 + 1]? = some fv ∧ TxR w fv L[k]
theorem LnR.form {w : World} {v : Value} {L : List (List (List UInt8))} (h : LnR w v L) : ∃ A c, v = .slice A L.length c ∧ L.length ≤ c ∧ c ≤ maxLen := by
  obtain ⟨xs, h1, _⟩ := h; exact h1.form
theorem LnR.below {w w' : World} {v : Value} {L : List (List (List UInt8))} (h : LnR w v L) (hb : Below w.heap.size w w') : LnR w' v L := by
  obtain ⟨xs, h1, h2⟩ := h
  exact ⟨xs, h1.below hb, fun k hk => by obtain ⟨n, fv, x0, x1, x2⟩ := h2 k hk; exact ⟨n, fv, x0, x1, x2.below hb⟩⟩
theorem LnR.at_ {w : World} {v : Value} {L : List (List (List UInt8))} (h : LnR w v L) {k : Nat} (hk : k < L.length) :
    ∃ g o c, ∃ (a : Int) (fv : Value), v = .slice (some ⟨g, o, none⟩) L.length c ∧ g < w.heap.size ∧ w.cell? ⟨g, o + k * 2, none⟩ = some (.int .i64 a) ∧ w.cell? ⟨g, o + k * 2 + 1, none⟩ = some fv ∧ TxR w fv L[k] := by
  obtain ⟨xs, h1, h2⟩ := h
  obtain ⟨g, o, c, a, b, hv, _, hg, x1, x2, y1, y2⟩ := h1.two hk
  obtain ⟨n, fv, z0, z1, z2⟩ := h2 k hk
  rw [z0, Option.some.injEq] at x1
  rw [z1, Option.some.injEq] at x2
  subst x1 x2
  exact ⟨g, o, c, n, fv, hv, hg, y1, y2, z2⟩
theorem LnR.of_recs {w : World} {v : Value} {rs : List Rec} (h : RecsR w v rs) : LnR w v (rs.map fun r => r.2.map (·.1)) := by
  obtain ⟨L, h1, h2, h3⟩ := h
  have hl : L.length = rs.length := by rw [← h1, List.length_map]
  refine ⟨rcells L, by rw [List.length_map]; exact h2.1, fun k hk => ?_⟩
  rw [List.length_map] at hk
  have hkL : k < L.length := by omega
  have e : L[k].1 = rs[k] := by simp only [← h1, List.getElem_map]
  refine ⟨_, _, (rcells_at L k hkL).1, (rcells_at L k hkL).2, ?_⟩
  rw [List.getElem_map, ← e]
  exact TxR.of_flds (h3 _ (List.getElem_mem hkL)).1

def joinL (ts : List (List UInt8)) : List UInt8 := Lib.join ts [32]
theorem joinL_nil : joinL [] = [] := rfl
theorem joinTail_snoc (sep x : List UInt8) (r : List (List UInt8)) : Lib.joinTail sep (r ++ [x]) = Lib.joinTail sep r ++ (sep ++ x) := by
  unfold Lib.joinTail; rw [List.map_append, List.flatten_append]; simp
theorem joinL_snoc (l : List (List UInt8)) (x : List UInt8) : joinL (l ++ [x]) = if l = [] then x else joinL l ++ 32 :: x := by
  cases l with
  | nil => rw [if_pos rfl]; exact Lib.join_one x [32]
  | cons y r =>
    rw [if_neg (by simp)]
    unfold joinL
    rw [List.cons_append, Lib.join_cons, Lib.join_cons, joinTail_snoc, List.append_assoc]; rfl
theorem joinL_take_len (l : List (List UInt8)) (k : Nat) : (joinL (l.take k)).length ≤ (joinL l).length := by
  have key : ∀ a b : List (List UInt8), (joinL a).length ≤ (joinL (a ++ b)).length := by
    intro a b
    cases a with
    | nil => exact Nat.zero_le _
    | cons x a =>
      unfold joinL
      rw [List.cons_append, Lib.join_cons, Lib.join_cons, List.length_append, List.length_append]
      unfold Lib.joinTail
      rw [List.map_append, List.flatten_append, List.length_append]
      omega
  have := key (l.take k) (l.drop k)
  rwa [List.take_append_drop] at this
def writeL (L : List (List (List UInt8))) : List UInt8 := L.flatMap fun ts => if ts = [] then [] else joinL ts ++ [10]
theorem writeL_snoc (L : List (List (List UInt8))) (ts : List (List UInt8)) : writeL (L ++ [ts]) = writeL L ++ if ts = [] then [] else joinL ts ++ [10] := by
  unfold writeL; rw [List.flatMap_append]; simp
theorem writeL_take_len (L : List (List (List UInt8))) (k : Nat) : (writeL (L.take k)).length ≤ (writeL L).length := by
  have h : (writeL (L.take k ++ L.drop k)).length = (writeL L).length := by rw [List.take_append_drop]
  have e : writeL (L.take k ++ L.drop k) = writeL (L.take k) ++ writeL (L.drop k) := by unfold writeL; rw [List.flatMap_append]
  rw [e, List.length_append] at h
  omega
theorem take_at {α : Type} {l : List α} {k : Nat} (h : k < l.length) : l.take (k + 1) = l.take k ++ [l[k]] := List.take_succ_eq_append_getElem h
theorem writeL_at {L : List (List (List UInt8))} {k : Nat} (h : k < L.length) : writeL (L.take (k + 1)) = writeL (L.take k) ++ if L[k] = [] then [] else joinL L[k] ++ [10] := by
  rw [take_at h, writeL_snoc]
theorem writeL_room {L : List (List (List UInt8))} {k : Nat} (h : k < L.length) (h0 : L[k] ≠ []) : (writeL (L.take k)).length + (joinL L[k]).length + 1 ≤ (writeL L).length := by
  have := writeL_take_len L (k + 1)
  rw [writeL_at h, if_neg h0] at this
  simp only [List.length_append, List.length_cons, List.length_nil] at this
  omega
theorem cell_one_new2 (w : World) (o : Obj) (a : Value) (t : TypeId) : ∀ j u, [a][j]? = some u → ((w.alloc o).alloc (.cells #[a] t)).cell? ((⟨w.heap.size + 1, 0, none⟩ : Addr).add j) = some u := by
  have h := cell_one_new (w.alloc o) a t
  have e : (w.alloc o).heap.size = w.heap.size + 1 := by simp
  rw [e] at h
  exact h
theorem join_call (v : Value) (ts : List (List UInt8)) (w : World) (h : Rd w 1 v ts.length (scells ts)) (hL : (joinL ts).length ≤ 1100000000) (hn : ts.length ≤ 1100000000) :
    Calls Tryz.prog 77 #[v, .string ⟨#[32]⟩] w (StrPost (joinL ts) w) := by
  obtain ⟨hl, A, c, rfl, hc, hm, hx⟩ := h
  rcases Nat.eq_zero_or_pos ts.length with h0 | h0
  · have : ts = [] := List.eq_nil_of_length_eq_zero h0
    subst this
    refine (Tryz.strings_Join_none A c ⟨#[32]⟩ w).mono ?_
    rintro e w' ⟨rfl, rfl⟩
    exact ⟨_, rfl, rfl, Below.refl _ _⟩
  · obtain ⟨g, o, rfl, hg, hcell⟩ := hx h0
    have e1 : (ts.map sb).length = ts.length := List.length_map _
    have e2 : (ts.map sb).map (fun s : ByteArray => s.data.toList) = ts := by rw [List.map_map]; exact List.map_id' ts
    have h2 := Tryz.strings_Join g o c (ts.map sb) ⟨#[32]⟩ w (fun j x hj => hcell j _ (by
        unfold scells
        rw [List.getElem?_map] at hj ⊢
        cases hq : ts[j]? with
        | none => rw [hq] at hj; cases hj
        | some y => rw [hq] at hj; simp only [Option.map_some, Option.some.injEq] at hj ⊢; rw [hj])) hg (by rw [e1]; omega) (by rw [e1]; exact hc) (by rw [e2]; exact Nat.le_trans hL (by decide))
    rw [e1, e2] at h2
    refine h2.mono ?_
    rintro e w' ⟨rfl, hb⟩
    exact ⟨_, rfl, rfl, hb⟩

end Go.Proofs.YtinkdlmikhcpjaaGreatDoor
namespace Go.Proofs.YtinkdlmikhcpjaaGreatDoor
open Go.RowKit
set_option linter.unusedVariables false
set_option linter.unusedSimpArgs false

theorem left_bad {s : Sc} (h : s.bad = true) : (0 : Int) = (s.left : Int) := by unfold Sc.left; rw [if_pos h]; rfl
theorem left_ok {s : Sc} (h : s.bad = false) (h2 : s.nx ≤ s.fs.length) : (s.fs.length : Int) - (s.nx : Int) = (s.left : Int) := by
  unfold Sc.left; rw [if_neg (by rw [h]; decide)]; omega

/-! ### names and numbers -/
def nameSV (m : Int) (t : List UInt8) : List UInt8 := if nameB t m then t else []
def nameSE (m : Int) (t : List UInt8) : Int := if nameB t m then 0 else 5
/-- a box of one number -/
def NBox (w : World) (b : Nat) (x : Int) (T : TypeId) : Prop := w.heap[b]? = some (.cells #[.int .i64 x] T (0, 0))
theorem NBox.cell {w : World} {b : Nat} {x : Int} {T : TypeId} (h : NBox w b x T) : w.cell? ⟨b, 0, none⟩ = some (.int .i64 x) := blkCell h 0 rfl
theorem NBox.off {w w' : World} {g b : Nat} {x : Int} {T : TypeId} (h : NBox w b x T) (ho : Off g w w') (hb : b ≠ g) : NBox w' b x T :=
  (ho.block b (Array.getElem?_eq_some_iff.1 h).1 (by intro e; injection e with e; exact hb e)).trans h
theorem NBox.below {w w' : World} {b : Nat} {x : Int} {T : TypeId} (h : NBox w b x T) (hb : Below w.heap.size w w') : NBox w' b x T :=
  (hb.block b (Array.getElem?_eq_some_iff.1 h).1).trans h
theorem nbox_new (w : World) (x : Int) (T : TypeId) : NBox (w.alloc (.cells #[.int .i64 x] T)) w.heap.size x T := heap_alloc_new w _
def StrSPost (V : List UInt8 → List UInt8) (E : List UInt8 → Int) (s : Sc) (g : Nat) (w : World) (e : Ending) (w' : World) : Prop := e = .returned (.string (sb (s.tv [] V))) ∧ ScPost (s.tk E) g w w'
theorem StrSPost.mk {V : List UInt8 → List UInt8} {E : List UInt8 → Int} {s : Sc} {g : Nat} {w w' : World} {x : List UInt8} (h1 : s.tv [] V = x) (h2 : ScPost (s.tk E) g w w') : StrSPost V E s g w (.returned (.string (sb x))) w' := by
  unfold StrSPost; rw [h1]; exact ⟨rfl, h2⟩
def RStrSPost (V : List UInt8 → List UInt8) (E : List UInt8 → Int) (s : Sc) (g : Nat) (w : World) (e : Ending) (w' : World) : Prop := e = .returned (.string (sb (s.tv [] V))) ∧ ScQPost (s.tk E) g w w'
theorem RStrSPost.mk {V : List UInt8 → List UInt8} {E : List UInt8 → Int} {s : Sc} {g : Nat} {w w' : World} {x : List UInt8} (h1 : s.tv [] V = x) (h2 : ScQPost (s.tk E) g w w') : RStrSPost V E s g w (.returned (.string (sb x))) w' := by
  unfold RStrSPost; rw [h1]; exact ⟨rfl, h2⟩
def NamePost (m : Int) (t : ByteArray) (w : World) (e : Ending) (w' : World) : Prop := e = .returned (.tuple #[.string (sb (nameSV m (bl t))), .int .i64 (nameSE m (bl t))]) ∧ w = w'
theorem nameClo_any (t : ByteArray) (m : Int) (b : Nat) (w : World) (ht : t.size ≤ maxLen) (hb : NBox w b m 3) :
    Calls Tryz.prog 97 #[.string t, .pointer (some ⟨b, 0, none⟩)] w (NamePost m t w) := by
  have hc := hb.cell
  have HF : Hid (∀ (x : ByteArray) (k : Int) w', x = sb (nameSV m (bl t)) → k = nameSE m (bl t) → w = w' → NamePost m t w (.returned (.tuple #[.string x, .int .i64 k])) w') := by
    rintro x k w' rfl rfl rfl; exact ⟨rfl, rfl⟩
  clear hb
  cases hn : nameB (bl t) m
  · have HV : Hid ((⟨#[]⟩ : ByteArray) = sb (nameSV m (bl t)) ∧ (5 : Int) = nameSE m (bl t)) := by unfold Hid nameSV nameSE; rw [hn]; exact ⟨rfl, rfl⟩
    have HN := Lib.hid hn
    clear hn
    go_enter Tryz.func97, Tryz.ntmps97
    go_wp2_with fail
    refine (name_any t m _ ht).mono ?_
    rintro e w' ⟨rfl, rfl⟩
    rw [HN.out]
    go_wp2
    go_ret2
    exact HF.out _ _ _ HV.out.1 HV.out.2 rfl
  · have HV : Hid (t = sb (nameSV m (bl t)) ∧ (0 : Int) = nameSE m (bl t)) := by unfold Hid nameSV nameSE; rw [hn]; exact ⟨(sb_bl t).symm, rfl⟩
    have HN := Lib.hid hn
    clear hn
    go_enter Tryz.func97, Tryz.ntmps97
    go_wp2_with fail
    refine (name_any t m _ ht).mono ?_
    rintro e w' ⟨rfl, rfl⟩
    rw [HN.out]
    go_wp2
    go_ret2
    exact HF.out _ _ _ HV.out.1 HV.out.2 rfl
def NumPostW (lo hi : Int) (t : ByteArray) (w : World) (e : Ending) (w' : World) : Prop := NumPost t lo hi w e w'
def numSV (lo hi : Int) (t : List UInt8) : Int := numN lo hi (numSpec t)
def numSE (lo hi : Int) (t : List UInt8) : Int := numE lo hi (numSpec t)
theorem numS_zero {lo hi : Int} {t : List UInt8} (h : numSE lo hi t ≠ 0) : numSV lo hi t = 0 := by
  unfold numSE numE at h; unfold numSV numN
  cases ho : numSpec t with
  | none => rfl
  | some v =>
    rw [ho] at h
    simp only at h ⊢
    by_cases h1 : numIn lo hi v = true
    · rw [if_pos h1] at h; exact absurd rfl h
    · rw [if_neg h1]
theorem nameS_zero {m : Int} {t : List UInt8} (h : nameSE m t ≠ 0) : nameSV m t = [] := by
  unfold nameSE at h; unfold nameSV
  by_cases h1 : nameB t m = true
  · rw [if_pos h1] at h; exact absurd rfl h
  · rw [if_neg h1]
set_option maxRecDepth 100000 in
set_option maxHeartbeats 1000000 in
theorem takenName_any (m : Int) (b : Nat) (s : Sc) (g : Nat) (w : World) (hts : s.text.length ≤ 140737488351232) (hbg : b ≠ g) (hbx : NBox w b m 3) (h : ScP w g s) :
    Calls Tryz.prog 96 #[.pointer (some ⟨g, 0, none⟩), .func (.func 97) #[] #[.pointer (some ⟨b, 0, none⟩)]] w (StrSPost (nameSV m) (nameSE m) s g w) := by
  have H := Lib.hid h
  have HBX := Lib.hid hbx
  clear h hbx
  cases hg : s.got
  · have HG := Lib.hid hg
    have HF1 := Lib.hid (Sc.tv_no hg ([] : List UInt8) (nameSV m))
    have HF2 := Lib.hid (Sc.tk_no hg (nameSE m))
    clear hg
    go_enter Tryz.func96, Tryz.ntmps96
    go_wp2_with fail
    refine (take_any s g _ H.out).mono ?_
    rintro e w1 ⟨rfl, hp⟩
    rw [HG.out]
    have HP := Lib.hid hp
    clear hp
    go_wp2
    go_ret
    exact StrSPost.mk HF1.out (by rw [HF2.out]; exact HP.out)
  · have HG := Lib.hid hg
    have HF1 := Lib.hid (Sc.tv_got hg ([] : List UInt8) (nameSV m))
    have HF2 := Lib.hid (Sc.tk_got hg (nameSE m))
    obtain ⟨t, ht⟩ : ∃ t, s.text = t := ⟨_, rfl⟩
    have hsz := text_size hts
    rw [ht] at HF1 HF2 hsz
    have HT := Lib.hid ht
    have HSZ := Lib.hid hsz
    clear hg ht hts hsz
    go_enter Tryz.func96, Tryz.ntmps96
    go_wp2_with fail
    refine (take_any s g _ H.out).mono ?_
    rintro e w1 ⟨rfl, hp⟩
    rw [HG.out, HT.out]
    have HP := Lib.hid hp
    have HB1 := Lib.hid (HBX.out.off hp.2 hbg)
    clear hp
    go_wp2_with fail
    refine (nameClo_any (sb t) m b _ (by have := HSZ.out; unfold maxLen; omega) HB1.out).mono ?_
    rintro e w2 ⟨rfl, rfl⟩
    rw [bl_sb]
    have c3 := HP.out.1.c3
    obtain ⟨x, hx⟩ : ∃ x, nameSV m t = x := ⟨_, rfl⟩
    obtain ⟨er, her⟩ : ∃ x, nameSE m t = x := ⟨_, rfl⟩
    have hz : er ≠ 0 → x = [] := by rw [← her, ← hx]; exact nameS_zero
    rw [hx] at HF1
    rw [her] at HF2
    rw [hx, her]
    clear hx her
    by_cases h0 : er = 0
    · have e1 : (er != 0) = false := bne_eq_false_iff_eq.2 h0
      have HE : Hid (s.tk (nameSE m) = s.take) := by unfold Hid; rw [HF2.out, h0, Sc.note_zero]
      clear h0 hz
      go_wp2
      go_ret
      exact StrSPost.mk HF1.out (by rw [HE.out]; exact HP.out)
    · have e1 : (er != 0) = true := bne_iff_ne.2 h0
      have HX := Lib.hid (hz h0)
      clear h0 hz
      go_wp2_with fail
      refine (note_any s.take s.take.la er g _ HP.out.1).mono ?_
      rintro e w3 ⟨rfl, hp⟩
      have HP3 := Lib.hid (HP.out.trans hp)
      clear hp
      go_wp2
      go_ret
      exact StrSPost.mk (x := []) (by rw [HF1.out, HX.out]) (by rw [HF2.out]; exact HP3.out)
set_option maxHeartbeats 1000000 in
theorem nameS_any (m : Int) (s : Sc) (g : Nat) (w : World) (hts : s.text.length ≤ 140737488351232) (h : ScP w g s) :
    Calls Tryz.prog 41 #[.pointer (some ⟨g, 0, none⟩), .int .i64 m] w (StrSPost (nameSV m) (nameSE m) s g w) := by
  have hgs := h.lt
  have H : Hid (ScP (w.alloc (.cells #[.int .i64 m] 3)) g s) := h.alloc _
  have HB : Hid (NBox (w.alloc (.cells #[.int .i64 m] 3)) w.heap.size m 3) := nbox_new w m _
  have HO : Hid (Off g w (w.alloc (.cells #[.int .i64 m] 3))) := (Off.refl g w).alloc _
  clear h
  go_enter Tryz.func41, Tryz.ntmps41
  go_wp2_with fail
  refine (takenName_any m _ s g _ hts (by omega) HB.out H.out).mono ?_
  rintro e w1 ⟨rfl, hp⟩
  have HP : Hid (ScPost (s.tk (nameSE m)) g w w1) := ⟨hp.1, HO.out.trans hp.2⟩
  clear hp
  go_wp2
  go_ret
  exact ⟨rfl, HP.out⟩
end Go.Proofs.YtinkdlmikhcpjaaGreatDoor
namespace Go.Proofs.YtinkdlmikhcpjaaGreatDoor
open Go.RowKit
set_option linter.unusedVariables false
set_option linter.unusedSimpArgs false

theorem ficells_drop : ∀ (l : List FldI) (k : Nat), ficells (l.drop k) = (ficells l).drop (k * 2)
  | [], k => by simp [ficells]
  | f :: l, 0 => by simp
  | f :: l, k + 1 => by
    rw [List.drop_succ_cons, ficells_cons, ficells_drop l k, show (k + 1) * 2 = k * 2 + 1 + 1 by omega, List.drop_succ_cons, List.drop_succ_cons]
def Sc.restS (s : Sc) : Sc := if s.left = 0 then s else { s with nx := s.fs.length, la := (fld s.fs s.nx).2 }
def Sc.restV (s : Sc) : List UInt8 := if s.left = 0 then [] else joinL ((s.fs.drop s.nx).map (·.1))
theorem left_pos {s : Sc} (h : s.left ≠ 0) : s.bad = false ∧ s.nx < s.fs.length := by
  unfold Sc.left at h
  cases hb : s.bad
  · rw [hb] at h; refine ⟨rfl, ?_⟩; simp at h; omega
  · rw [hb] at h; exact absurd rfl h
theorem FsR.tx {w : World} {g b o c : Nat} {fs : List FldI} (h : FsR w g (.slice (some ⟨b, o, none⟩) fs.length c) fs) (hg : g ≤ w.heap.size) {k : Nat} (hk : k < fs.length) :
    TxR w (.slice (some ⟨b, o + k * 2, none⟩) (fs.length - k) (c - k)) ((fs.drop k).map (·.1)) := by
  obtain ⟨A, c', hv, hc, hm, hf, hr⟩ := h
  obtain ⟨b', o', rfl, hb, hx⟩ := hr (by omega)
  simp only [Value.slice.injEq, Option.some.injEq, Addr.mk.injEq, true_and, and_true] at hv
  obtain ⟨⟨rfl, rfl⟩, rfl⟩ := hv
  have hl : ((fs.drop k).map (·.1)).length = fs.length - k := by rw [List.length_map, List.length_drop]
  refine ⟨ficells (fs.drop k), ⟨by rw [ficells_len, hl, List.length_drop], _, _, by rw [hl], by rw [hl]; omega, by omega, fun _ => ⟨b, o + k * 2, rfl, by omega, fun j u hu => ?_⟩⟩, fun j hj => ?_⟩
  · rw [ficells_drop, List.getElem?_drop] at hu
    have := hx _ _ hu
    rwa [← Nat.add_assoc] at this
  · rw [hl] at hj
    have := ficells_at (fs.drop k) j (by rw [List.length_drop]; exact hj)
    rw [List.getElem_map]
    exact ⟨this.1, _, this.2⟩
theorem scC_rest {s : Sc} (h : s.left ≠ 0) (v : Value) : ((scC s v).setIfInBounds 2 (.int .i64 (s.fs.length : Int))).setIfInBounds 3 (.int .i64 (fld s.fs s.nx).2) = scC s.restS v := by
  unfold Sc.restS; rw [if_neg h]; rfl
theorem rscC_rest {s : Sc} (h : s.left ≠ 0) (v : Value) : ((rscC s v).setIfInBounds 2 (.int .i64 (s.fs.length : Int))).setIfInBounds 3 (.int .i64 (fld s.fs s.nx).2) = rscC s.restS v := by
  unfold Sc.restS; rw [if_neg h]; rfl
theorem rest_fs (s : Sc) : s.restS.fs = s.fs := by unfold Sc.restS; split <;> rfl
theorem rest_nx {s : Sc} (h : s.left ≠ 0) : s.restS.nx = s.fs.length := by unfold Sc.restS; rw [if_neg h]
set_option maxRecDepth 100000 in
set_option maxHeartbeats 1000000 in
theorem rnameS_any (m : Int) (s : Sc) (g : Nat) (w : World) (hts : s.text.length ≤ 140737488351232) (h : ScQ w g s) :
    Calls Tryz.prog 46 #[.pointer (some ⟨g, 0, none⟩), .int .i64 m] w (RStrSPost (nameSV m) (nameSE m) s g w) := by
  have H := Lib.hid h
  clear h
  cases hg : s.got
  · have HG := Lib.hid hg
    have HF1 := Lib.hid (Sc.tv_no hg ([] : List UInt8) (nameSV m))
    have HF2 := Lib.hid (Sc.tk_no hg (nameSE m))
    clear hg
    go_enter Tryz.func46, Tryz.ntmps46
    go_wp2_with fail
    refine (rtake_any s g _ H.out).mono ?_
    rintro e w1 ⟨rfl, hp⟩
    rw [HG.out]
    have HP := Lib.hid hp
    clear hp
    go_wp2
    go_ret
    exact RStrSPost.mk HF1.out (by rw [HF2.out]; exact HP.out)
  · have HG := Lib.hid hg
    have HF1 := Lib.hid (Sc.tv_got hg ([] : List UInt8) (nameSV m))
    have HF2 := Lib.hid (Sc.tk_got hg (nameSE m))
    obtain ⟨t, ht⟩ : ∃ t, s.text = t := ⟨_, rfl⟩
    have hsz := text_size hts
    rw [ht] at HF1 HF2 hsz
    have HT := Lib.hid ht
    have HSZ := Lib.hid hsz
    clear hg ht hts hsz
    cases hn : nameB t m
    · have HV : Hid (nameSV m t = [] ∧ nameSE m t = 5) := by unfold Hid nameSV nameSE; rw [hn]; exact ⟨rfl, rfl⟩
      have HN := Lib.hid hn
      clear hn
      go_enter Tryz.func46, Tryz.ntmps46
      go_wp2_with fail
      refine (rtake_any s g _ H.out).mono ?_
      rintro e w1 ⟨rfl, hp⟩
      rw [HG.out, HT.out]
      have HP := Lib.hid hp
      clear hp
      go_wp2_with fail
      refine (rname_any (sb t) m _ (by have := HSZ.out; unfold maxLen; omega)).mono ?_
      rintro e w2 ⟨rfl, rfl⟩
      rw [bl_sb, HN.out]
      have c3 := HP.out.1.c3
      go_wp2_with fail
      refine (rnote_any s.take s.take.la 5 g _ HP.out.1).mono ?_
      rintro e w3 ⟨rfl, hp⟩
      have HP3 := Lib.hid (HP.out.trans hp)
      clear hp
      go_wp2
      go_ret
      exact RStrSPost.mk (x := []) (by rw [HF1.out, HV.out.1]) (by rw [HF2.out, HV.out.2]; exact HP3.out)
    · have HV : Hid (nameSV m t = t ∧ nameSE m t = 0) := by unfold Hid nameSV nameSE; rw [hn]; exact ⟨rfl, rfl⟩
      have HN := Lib.hid hn
      clear hn
      go_enter Tryz.func46, Tryz.ntmps46
      go_wp2_with fail
      refine (rtake_any s g _ H.out).mono ?_
      rintro e w1 ⟨rfl, hp⟩
      rw [HG.out, HT.out]
      have HP := Lib.hid hp
      clear hp
      go_wp2_with fail
      refine (rname_any (sb t) m _ (by have := HSZ.out; unfold maxLen; omega)).mono ?_
      rintro e w2 ⟨rfl, rfl⟩
      rw [bl_sb, HN.out]
      go_wp2
      go_ret
      exact RStrSPost.mk (by rw [HF1.out, HV.out.1]) (by rw [HF2.out, HV.out.2, Sc.note_zero]; exact HP.out)
end Go.Proofs.YtinkdlmikhcpjaaGreatDoor
