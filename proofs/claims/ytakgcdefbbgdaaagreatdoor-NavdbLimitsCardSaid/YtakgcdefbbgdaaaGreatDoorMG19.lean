/-
  Several texts as one.
  Contracts of the law's own helpers: cut, sameFields (at equal fields).
  Contract: flightdeckref08.ParseWindow.
  Contracts: record.texts, record.Write and the reference's Join, Write: the texts of fields with blanks between them, and records as lines.
-/
import Derived.Test.YtakgcdefbbgdaaaGreatDoorRead
import Derived.Test.YtakgcdefbbgdaaaGreatDoorShelf
namespace Go.Proofs.YtakgcdefbbgdaaaGreatDoor
open Go.RowKit
set_option linter.unusedVariables false
set_option linter.unusedSimpArgs false

theorem Rd.three {w : World} {n : Nat} {v : Value} {xs : List Value} (h : Rd w 3 v n xs) {k : Nat} (hk : k < n) : ∃ g o c a b d, v = .slice (some ⟨g, o, none⟩) n c ∧ n ≤ c ∧ g < w.heap.size ∧ xs[k * 3]? = some a ∧ xs[k * 3 + 1]? = some b ∧ xs[k * 3 + 2]? = some d ∧ w.cell? ⟨g, o + k * 3, none⟩ = some a ∧ w.cell? ⟨g, o + k * 3 + 1, none⟩ = some b ∧ w.cell? ⟨g, o + k * 3 + 2, none⟩ = some d := by
  obtain ⟨hl, A, c, hv, hc, hm, hr⟩ := h
  obtain ⟨g, o, rfl, hg, hx⟩ := hr (by omega)
  have h1 : k * 3 < xs.length := by omega
  have h2 : k * 3 + 1 < xs.length := by omega
  have h3 : k * 3 + 2 < xs.length := by omega
  have e2 := hx _ _ (List.getElem?_eq_getElem h2)
  have e3 := hx _ _ (List.getElem?_eq_getElem h3)
  rw [← Nat.add_assoc] at e2 e3
  exact ⟨g, o, c, xs[k * 3], xs[k * 3 + 1], xs[k * 3 + 2], hv, hc, hg, List.getElem?_eq_getElem h1, List.getElem?_eq_getElem h2, List.getElem?_eq_getElem h3, hx _ _ (List.getElem?_eq_getElem h1), e2, by rwa [Nat.add_assoc] at e3 ⊢⟩
theorem dcells_at (l : List Dg) : ∀ (k : Nat) (h : k < l.length), (dcells l)[k * 3]? = some (.int .i64 (l[k].1 : Int)) ∧ (dcells l)[k * 3 + 1]? = some (.int .i64 l[k].2.1) ∧ (dcells l)[k * 3 + 2]? = some (.int .i64 l[k].2.2) := by
  induction l with
  | nil => intro k h; simp at h
  | cons d l ih =>
    intro k h
    cases k with
    | zero => exact ⟨rfl, rfl, rfl⟩
    | succ k =>
      have := ih k (by simpa using h)
      rw [show (k + 1) * 3 = k * 3 + 3 by omega]
      exact this
theorem rcells_at (L : List (Rec × Value)) : ∀ (k : Nat) (h : k < L.length), (rcells L)[k * 2]? = some (.int .i64 (L[k].1.1 : Int)) ∧ (rcells L)[k * 2 + 1]? = some L[k].2 := by
  induction L with
  | nil => intro k h; simp at h
  | cons d l ih =>
    intro k h
    cases k with
    | zero => exact ⟨rfl, rfl⟩
    | succ k =>
      have := ih k (by simpa using h)
      rw [show (k + 1) * 2 = k * 2 + 2 by omega]
      exact this
theorem RecsR.form {w : World} {v : Value} {rs : List Rec} (h : RecsR w v rs) : ∃ A c, v = .slice A rs.length c ∧ rs.length ≤ c ∧ c ≤ maxLen := by
  obtain ⟨L, _, h2, _⟩ := h
  exact h2.1.form
theorem RecsR.below {w w' : World} {v : Value} {rs : List Rec} (h : RecsR w v rs) (hb : Below w.heap.size w w') : RecsR w' v rs := by
  obtain ⟨L, h1, h2, h3⟩ := h
  exact ⟨L, h1, h2.below hb, h3.below hb⟩
theorem DgsR.below {w w' : World} {v : Value} {ds : List Dg} (h : DgsR w v ds) (hb : Below w.heap.size w w') : DgsR w' v ds := RdT.below h hb
theorem DgsR.form {w : World} {v : Value} {ds : List Dg} (h : DgsR w v ds) : ∃ A c, v = .slice A ds.length c ∧ ds.length ≤ c ∧ c ≤ maxLen := h.1.form
theorem RecsR.at_ {w : World} {v : Value} {rs : List Rec} (h : RecsR w v rs) {k : Nat} (hk : k < rs.length) : ∃ g o c fv, v = .slice (some ⟨g, o, none⟩) rs.length c ∧ w.cell? ⟨g, o + k * 2, none⟩ = some (.int .i64 (rs[k].1 : Int)) ∧ w.cell? ⟨g, o + k * 2 + 1, none⟩ = some fv ∧ RdT w 125 2 fv rs[k].2.length (fcells rs[k].2) := by
  obtain ⟨L, h1, h2, h3⟩ := h
  have hl : L.length = rs.length := by rw [← h1, List.length_map]
  have hkL : k < L.length := by omega
  have e : L[k].1 = rs[k] := by simp only [← h1, List.getElem_map]
  obtain ⟨g, o, c, a, b, hv, _, _, x1, x2, y1, y2⟩ := h2.1.two hk
  have := rcells_at L k hkL
  rw [this.1, Option.some.injEq] at x1
  rw [this.2, Option.some.injEq] at x2
  subst x1 x2
  rw [e] at y1
  refine ⟨g, o, c, _, hv, y1, y2, ?_⟩
  rw [← e]
  exact h3 _ (List.getElem_mem hkL)
theorem DgsR.at_ {w : World} {v : Value} {ds : List Dg} (h : DgsR w v ds) {k : Nat} (hk : k < ds.length) : ∃ g o c, v = .slice (some ⟨g, o, none⟩) ds.length c ∧ w.cell? ⟨g, o + k * 3, none⟩ = some (.int .i64 (ds[k].1 : Int)) ∧ w.cell? ⟨g, o + k * 3 + 1, none⟩ = some (.int .i64 ds[k].2.1) ∧ w.cell? ⟨g, o + k * 3 + 2, none⟩ = some (.int .i64 ds[k].2.2) := by
  obtain ⟨g, o, c, a, b, d, hv, _, _, x1, x2, x3, y1, y2, y3⟩ := Rd.three h.1 hk
  have := dcells_at ds k hk
  rw [this.1, Option.some.injEq] at x1
  rw [this.2.1, Option.some.injEq] at x2
  rw [this.2.2, Option.some.injEq] at x3
  subst x1 x2 x3
  exact ⟨g, o, c, hv, y1, y2, y3⟩

end Go.Proofs.YtakgcdefbbgdaaaGreatDoor
namespace Go.Proofs.YtakgcdefbbgdaaaGreatDoor
open Go.RowKit
set_option linter.unusedVariables false
set_option linter.unusedSimpArgs false

/-- the parts of the text of a window, and which kind it is of -/
def PwParts (l a b : List UInt8) (k : Int) : Prop :=
  (k = 3 ∧ cutAt 58 l = (a, b, true)) ∨ (k ≠ 3 ∧ a = b ∧ (cutAt 58 l).2.2 = false ∧
    ((k = 0 ∧ lastIs 43 l = false ∧ lastIs 45 l = false ∧ a = l) ∨ (k = 1 ∧ lastIs 43 l = true ∧ a = l.dropLast) ∨ (k = 2 ∧ lastIs 43 l = false ∧ lastIs 45 l = true ∧ a = l.dropLast)))
def pwJoin (k : Int) (x y : Option Int) : Option (Int × Int) := match x, y with
  | some x, some y => some (if k = 2 then -200000 else x, if k = 1 then 6000000 else y)
  | _, _ => none
theorem pwJoin_none2 (k : Int) {o2 : Option Int} (o : Option Int) (h : o2 = none) : pwJoin k o o2 = none := by
  subst h; cases o <;> rfl
theorem pwJoin_some (k : Int) {o1 o2 : Option Int} {x y : Int} (h1 : o1 = some x) (h2 : o2 = some y) : pwJoin k o1 o2 = some (if k = 2 then -200000 else x, if k = 1 then 6000000 else y) := by
  subst h1 h2; rfl
theorem pwParts_spec {l a b : List UInt8} {k : Int} (hl : l ≠ [45]) (h : PwParts l a b k) : winSpec l = pwJoin k (altSpec a) (altSpec b) := by
  rcases h with ⟨rfl, h⟩ | ⟨_, rfl, hf, h⟩
  · rw [winSpec_eq hl h]
    unfold winOf pwJoin
    rw [if_pos rfl]
    cases altSpec a <;> cases altSpec b <;> rfl
  · have hc : cutAt 58 l = ((cutAt 58 l).1, (cutAt 58 l).2.1, false) := by rw [← hf]
    rw [winSpec_eq hl hc]
    unfold winOf pwJoin
    rw [if_neg (by decide)]
    rcases h with ⟨rfl, h1, h2, rfl⟩ | ⟨rfl, h1, rfl⟩ | ⟨rfl, h1, h2, rfl⟩
    · rw [h1, h2]
      cases altSpec a <;> rfl
    · rw [h1]
      cases altSpec l.dropLast <;> rfl
    · rw [h1, h2]
      cases altSpec l.dropLast <;> rfl
theorem pwJoin_range {l a b : List UInt8} {k x y : Int} (h : PwParts l a b k) (ha : altSpec a = some x) (hb : altSpec b = some y) (hr : (rangedB x && rangedB y) = false) :
    ∃ lo hi, pwJoin k (altSpec a) (altSpec b) = some (lo, hi) ∧ (rangedB lo && rangedB hi) = false := by
  refine ⟨_, _, by rw [ha, hb]; rfl, ?_⟩
  rcases h with ⟨rfl, h⟩ | ⟨_, rfl, hf, h⟩
  · exact hr
  · rw [ha, Option.some.injEq] at hb
    subst hb
    rw [Bool.and_self] at hr
    rcases h with ⟨rfl, h1, h2, rfl⟩ | ⟨rfl, h1, rfl⟩ | ⟨rfl, h1, h2, rfl⟩
    · simp [hr]
    · simp [hr]
    · simp [hr]
theorem pwJoin_order {l a b : List UInt8} {k x y : Int} (h : PwParts l a b k) (ha : altSpec a = some x) (hb : altSpec b = some y) (hr : y < x) :
    pwJoin k (altSpec a) (altSpec b) = some (x, y) := by
  rcases h with ⟨rfl, h⟩ | ⟨_, rfl, hf, h⟩
  · rw [ha, hb]; rfl
  · rw [ha, Option.some.injEq] at hb
    omega
theorem notin_take_succ {s : ByteArray} {j : Nat} (hj : j < s.size) (hc : ¬ (s[j].toNat : Int) = 58) (h : (58 : UInt8) ∉ (bl s).take j) : (58 : UInt8) ∉ (bl s).take (j + 1) := by
  rw [List.take_succ_eq_append_getElem (show j < (bl s).length from hj), List.mem_append, List.mem_singleton]
  rintro (e | e)
  · exact h e
  · apply hc
    have : (58 : UInt8) = s[j] := e
    rw [← this]; rfl
theorem cut_here {s : ByteArray} {j : Nat} (hj : j < s.size) (hc : (s[j].toNat : Int) = 58) (h : (58 : UInt8) ∉ (bl s).take j) : cutAt 58 (bl s) = (bl (s.extract 0 j), bl (s.extract (j + 1) s.size), true) := by
  have e58 : s[j] = 58 := by apply UInt8.toNat_inj.1; show s[j].toNat = 58; omega
  have h1 : bl s = (bl s).take j ++ (58 : UInt8) :: (bl s).drop (j + 1) := by
    conv => lhs; rw [← List.take_append_drop j (bl s)]
    rw [List.drop_eq_getElem_cons (show j < (bl s).length from hj)]
    exact congrArg (fun c : UInt8 => (bl s).take j ++ c :: (bl s).drop (j + 1)) e58
  rw [bl_take, bl_drop]
  conv => lhs; rw [h1]
  exact cutAt_mid h
theorem lastIs_at {s : ByteArray} {n : Nat} (hn : n < 256) (h : s.size - 1 < s.size) : lastIs (UInt8.ofNat n) (bl s) = ((s[s.size - 1].toNat : Int) == (n : Int)) := by
  unfold lastIs
  rw [List.getLast?_eq_getElem?, bl_len, bl_get? s _ h, Bool.eq_iff_iff, beq_iff_eq, beq_iff_eq, Option.some.injEq, ← u8_eq hn]
  omega
theorem bl_front (s : ByteArray) : bl (s.extract 0 (s.size - 1)) = (bl s).dropLast := by
  rw [bl_take, List.dropLast_eq_take, bl_len]

theorem refRes_cases {s : ByteArray} {n : Int} {form inn : Bool} (h : match altSpec (bl s) with
    | none => form = false
    | some v => form = true ∧ inn = rangedB v ∧ (inn = true → n = v)) : (form = false ∧ Hid (altSpec (bl s) = none)) ∨ (form = true ∧ ∃ v, Hid (altSpec (bl s) = some v) ∧ Hid (inn = rangedB v) ∧ (inn = true → n = v)) := by
  cases h2 : altSpec (bl s) with
  | none => rw [h2] at h; exact .inl ⟨h, rfl⟩
  | some v => rw [h2] at h; exact .inr ⟨h.1, v, rfl, h.2.1, h.2.2⟩

theorem ranged_ends {n : Int} (h : rangedB n = true) : -200000 ≤ n ∧ n ≤ 6000000 := by unfold rangedB at h; simpa using h
/-- the ways in which the loop over the text of a window ends -/
theorem pw_ways {s : ByteArray} {j : Nat} {kv av bv : Value} (h : (kv = .int .i64 0 ∧ av = .string s ∧ bv = .string s ∧ Hid ((58 : UInt8) ∉ (bl s).take j)) ∨ (∃ a b : ByteArray, kv = .int .i64 3 ∧ av = .string a ∧ bv = .string b ∧ a.size ≤ s.size ∧ b.size ≤ s.size ∧ Hid (cutAt 58 (bl s) = (bl a, bl b, true)))) (hj : s.size ≤ j) :
    (∃ a b : ByteArray, kv = .int .i64 3 ∧ av = .string a ∧ bv = .string b ∧ a.size ≤ s.size ∧ b.size ≤ s.size ∧ Hid (PwParts (bl s) (bl a) (bl b) 3)) ∨
    (kv = .int .i64 0 ∧ av = .string s ∧ bv = .string s ∧ (s.size : Int) ≤ 0 ∧ Hid (PwParts (bl s) (bl s) (bl s) 0)) ∨
    (kv = .int .i64 0 ∧ av = .string s ∧ bv = .string s ∧ (0 : Int) < (s.size : Int) ∧ ∃ hp : s.size - 1 < s.size, ((s[s.size - 1].toNat : Int) == 43) = true ∧ Hid (PwParts (bl s) (bl (s.extract 0 (s.size - 1))) (bl (s.extract 0 (s.size - 1))) 1)) ∨
    (kv = .int .i64 0 ∧ av = .string s ∧ bv = .string s ∧ (0 : Int) < (s.size : Int) ∧ ∃ hp : s.size - 1 < s.size, ((s[s.size - 1].toNat : Int) == 43) = false ∧ ((s[s.size - 1].toNat : Int) == 45) = true ∧ Hid (PwParts (bl s) (bl (s.extract 0 (s.size - 1))) (bl (s.extract 0 (s.size - 1))) 2)) ∨
    (kv = .int .i64 0 ∧ av = .string s ∧ bv = .string s ∧ (0 : Int) < (s.size : Int) ∧ ∃ hp : s.size - 1 < s.size, ((s[s.size - 1].toNat : Int) == 43) = false ∧ ((s[s.size - 1].toNat : Int) == 45) = false ∧ Hid (PwParts (bl s) (bl s) (bl s) 0)) := by
  rcases h with ⟨e1, e2, e3, hno⟩ | ⟨a, b, e1, e2, e3, ha, hb, hc⟩
  · right
    have hno2 : (58 : UInt8) ∉ bl s := by
      have := hno.out
      rwa [List.take_of_length_le (by rw [bl_len]; exact hj)] at this
    have hf : (cutAt 58 (bl s)).2.2 = false := by rw [cutAt_none hno2]
    rcases Nat.eq_zero_or_pos s.size with h0 | h0
    · left
      refine ⟨e1, e2, e3, by omega, ?_⟩
      have hn := bl_nil h0
      exact .inr ⟨by decide, rfl, hf, .inl ⟨rfl, by rw [hn]; rfl, by rw [hn]; rfl, rfl⟩⟩
    · right
      have hp : s.size - 1 < s.size := by omega
      have hl1 := lastIs_at (s := s) (n := 43) (by omega) hp
      have hl2 := lastIs_at (s := s) (n := 45) (by omega) hp
      cases h43 : ((s[s.size - 1].toNat : Int) == 43)
      · right
        cases h45 : ((s[s.size - 1].toNat : Int) == 45)
        · right
          exact ⟨e1, e2, e3, by omega, hp, by first | exact h43 | rfl, by first | exact h45 | rfl, .inr ⟨by decide, rfl, hf, .inl ⟨rfl, hl1.trans h43, hl2.trans h45, rfl⟩⟩⟩
        · left
          exact ⟨e1, e2, e3, by omega, hp, by first | exact h43 | rfl, by first | exact h45 | rfl, .inr ⟨by decide, rfl, hf, .inr (.inr ⟨rfl, hl1.trans h43, hl2.trans h45, bl_front s⟩)⟩⟩
      · left
        exact ⟨e1, e2, e3, by omega, hp, by first | exact h43 | rfl, .inr ⟨by decide, rfl, hf, .inr (.inl ⟨rfl, hl1.trans h43, bl_front s⟩)⟩⟩
  · exact .inl ⟨a, b, e1, e2, e3, ha, hb, .inl ⟨rfl, hc.out⟩⟩

end Go.Proofs.YtakgcdefbbgdaaaGreatDoor
namespace Go.Proofs.YtakgcdefbbgdaaaGreatDoor
open Go.RowKit
set_option linter.unusedVariables false
set_option linter.unusedSimpArgs false

/-- the texts of fields in memory -/
def TxR (w : World) (v : Value) (ts : List (List UInt8)) : Prop :=
  ∃ xs : List Value, Rd w 2 v ts.length xs ∧ ∀ k (h : k < ts.length), xs[k * 2]? = some (.string (sb ts[k])) ∧ ∃ n : Int, xs[k * 2 + 1]? = some (.int .i64 n)
theorem TxR.form {w : World} {v : Value} {ts : List (List UInt8)} (h : TxR w v ts) : ∃ A c, v = .slice A ts.length c ∧ ts.length ≤ c ∧ c ≤ maxLen := by
  obtain ⟨xs, h1, _⟩ := h; exact h1.form
theorem TxR.below {w w' : World} {v : Value} {ts : List (List UInt8)} (h : TxR w v ts) (hb : Below w.heap.size w w') : TxR w' v ts := by
  obtain ⟨xs, h1, h2⟩ := h; exact ⟨xs, h1.below hb, h2⟩
theorem TxR.at_ {w : World} {v : Value} {ts : List (List UInt8)} (h : TxR w v ts) {k : Nat} (hk : k < ts.length) :
    ∃ g o c, ∃ n : Int, v = .slice (some ⟨g, o, none⟩) ts.length c ∧ g < w.heap.size ∧ w.cell? ⟨g, o + k * 2, none⟩ = some (.string (sb ts[k])) ∧ w.cell? ⟨g, o + k * 2 + 1, none⟩ = some (.int .i64 n) := by
  obtain ⟨xs, h1, h2⟩ := h
  obtain ⟨g, o, c, a, b, hv, _, hg, x1, x2, y1, y2⟩ := h1.two hk
  obtain ⟨z1, n, z2⟩ := h2 k hk
  rw [z1, Option.some.injEq] at x1
  rw [z2, Option.some.injEq] at x2
  subst x1 x2
  exact ⟨g, o, c, n, hv, hg, y1, y2⟩
theorem TxR.of_flds {w : World} {v : Value} {l : List Fld} (h : Rd w 2 v l.length (fcells l)) : TxR w v (l.map (·.1)) := by
  refine ⟨fcells l, by rw [List.length_map]; exact h, fun k hk => ?_⟩
  rw [List.length_map] at hk
  rw [List.getElem_map]
  exact ⟨(fcells_at l k hk).1, _, (fcells_at l k hk).2⟩
/-- records in memory, of which the fields' texts count -/
def LnR (w : World) (v : Value) (L : List (List (List UInt8))) : Prop :=
  ∃ xs : List Value, Rd w 2 v L.length xs ∧ ∀ k (h : k < L.length), ∃ (n : Int) (fv : Value), xs[k * 2]? = some (.int .i64 n) ∧ xs[k * 2 + 1]? = some fv ∧ TxR w fv L[k]
theorem LnR.form {w : World} {v : Value} {L : List (List (List UInt8))} (h : LnR w v L) : ∃ A c, v = .slice A L.length c ∧ L.length ≤ c ∧ c ≤ maxLen := by
  obtain ⟨xs, h1, _⟩ := h; exact h1.form
theorem LnR.below {w w' : World} {v : Value} {L : List (List (List UInt8))} (h : LnR w v L) (hb : Below w.heap.size w w') : LnR w' v L := by
  obtain ⟨xs, h1, h2⟩ := h
  exact ⟨xs, h1.below hb, fun k hk => by obtain ⟨n, fv, x0, x1, x2⟩ := h2 k hk; exact ⟨n, fv, x0, x1, x2.below hb⟩⟩
theorem LnR.at_ {w : World} {v : Value} {L : List (List (List UInt8))} (h : LnR w v L) {k : Nat} (hk : k < L.length) :
    ∃ g o c, ∃ (a : Int) (fv : Value), v = .slice (some ⟨g, o, none⟩) L.length c ∧ g < w.heap.size ∧ w.cell? ⟨g, o + k * 2, none⟩ = some (.int .i64 a) ∧ w.cell? ⟨g, o + k * 2 + 1, none⟩ = some fv ∧ TxR w fv L[k] := by
  obtain ⟨xs, h1, h2⟩ := h
  obtain ⟨g, o, c, a, b, hv, _, hg, x1, x2, y1, y2⟩ := h1.two hk
  obtain ⟨n, fv, z0, z1, z2⟩ := h2 k hk
  rw [z0, Option.some.injEq] at x1
  rw [z1, Option.some.injEq] at x2
  subst x1 x2
  exact ⟨g, o, c, n, fv, hv, hg, y1, y2, z2⟩
theorem LnR.of_recs {w : World} {v : Value} {rs : List Rec} (h : RecsR w v rs) : LnR w v (rs.map fun r => r.2.map (·.1)) := by
  obtain ⟨L, h1, h2, h3⟩ := h
  have hl : L.length = rs.length := by rw [← h1, List.length_map]
  refine ⟨rcells L, by rw [List.length_map]; exact h2.1, fun k hk => ?_⟩
  rw [List.length_map] at hk
  have hkL : k < L.length := by omega
  have e : L[k].1 = rs[k] := by simp only [← h1, List.getElem_map]
  refine ⟨_, _, (rcells_at L k hkL).1, (rcells_at L k hkL).2, ?_⟩
  rw [List.getElem_map, ← e]
  exact TxR.of_flds (h3 _ (List.getElem_mem hkL)).1

def joinL (ts : List (List UInt8)) : List UInt8 := Lib.join ts [32]
theorem joinL_nil : joinL [] = [] := rfl
theorem joinTail_snoc (sep x : List UInt8) (r : List (List UInt8)) : Lib.joinTail sep (r ++ [x]) = Lib.joinTail sep r ++ (sep ++ x) := by
  unfold Lib.joinTail; rw [List.map_append, List.flatten_append]; simp
theorem joinL_snoc (l : List (List UInt8)) (x : List UInt8) : joinL (l ++ [x]) = if l = [] then x else joinL l ++ 32 :: x := by
  cases l with
  | nil => rw [if_pos rfl]; exact Lib.join_one x [32]
  | cons y r =>
    rw [if_neg (by simp)]
    unfold joinL
    rw [List.cons_append, Lib.join_cons, Lib.join_cons, joinTail_snoc, List.append_assoc]; rfl
theorem joinL_take_len (l : List (List UInt8)) (k : Nat) : (joinL (l.take k)).length ≤ (joinL l).length := by
  have key : ∀ a b : List (List UInt8), (joinL a).length ≤ (joinL (a ++ b)).length := by
    intro a b
    cases a with
    | nil => exact Nat.zero_le _
    | cons x a =>
      unfold joinL
      rw [List.cons_append, Lib.join_cons, Lib.join_cons, List.length_append, List.length_append]
      unfold Lib.joinTail
      rw [List.map_append, List.flatten_append, List.length_append]
      omega
  have := key (l.take k) (l.drop k)
  rwa [List.take_append_drop] at this
def writeL (L : List (List (List UInt8))) : List UInt8 := L.flatMap fun ts => if ts = [] then [] else joinL ts ++ [10]
theorem writeL_snoc (L : List (List (List UInt8))) (ts : List (List UInt8)) : writeL (L ++ [ts]) = writeL L ++ if ts = [] then [] else joinL ts ++ [10] := by
  unfold writeL; rw [List.flatMap_append]; simp
theorem writeL_take_len (L : List (List (List UInt8))) (k : Nat) : (writeL (L.take k)).length ≤ (writeL L).length := by
  have h : (writeL (L.take k ++ L.drop k)).length = (writeL L).length := by rw [List.take_append_drop]
  have e : writeL (L.take k ++ L.drop k) = writeL (L.take k) ++ writeL (L.drop k) := by unfold writeL; rw [List.flatMap_append]
  rw [e, List.length_append] at h
  omega
theorem take_at {α : Type} {l : List α} {k : Nat} (h : k < l.length) : l.take (k + 1) = l.take k ++ [l[k]] := List.take_succ_eq_append_getElem h
theorem writeL_at {L : List (List (List UInt8))} {k : Nat} (h : k < L.length) : writeL (L.take (k + 1)) = writeL (L.take k) ++ if L[k] = [] then [] else joinL L[k] ++ [10] := by
  rw [take_at h, writeL_snoc]
theorem writeL_room {L : List (List (List UInt8))} {k : Nat} (h : k < L.length) (h0 : L[k] ≠ []) : (writeL (L.take k)).length + (joinL L[k]).length + 1 ≤ (writeL L).length := by
  have := writeL_take_len L (k + 1)
  rw [writeL_at h, if_neg h0] at this
  simp only [List.length_append, List.length_cons, List.length_nil] at this
  omega
theorem cell_one_new2 (w : World) (o : Obj) (a : Value) (t : TypeId) : ∀ j u, [a][j]? = some u → ((w.alloc o).alloc (.cells #[a] t)).cell? ((⟨w.heap.size + 1, 0, none⟩ : Addr).add j) = some u := by
  have h := cell_one_new (w.alloc o) a t
  have e : (w.alloc o).heap.size = w.heap.size + 1 := by simp
  rw [e] at h
  exact h
theorem join_call (v : Value) (ts : List (List UInt8)) (w : World) (h : Rd w 1 v ts.length (scells ts)) (hL : (joinL ts).length ≤ 1100000000) (hn : ts.length ≤ 1100000000) :
    Calls Tryz.prog 35 #[v, .string ⟨#[32]⟩] w (StrPost (joinL ts) w) := by
  obtain ⟨hl, A, c, rfl, hc, hm, hx⟩ := h
  rcases Nat.eq_zero_or_pos ts.length with h0 | h0
  · have : ts = [] := List.eq_nil_of_length_eq_zero h0
    subst this
    refine (Tryz.strings_Join_none A c ⟨#[32]⟩ w).mono ?_
    rintro e w' ⟨rfl, rfl⟩
    exact ⟨_, rfl, rfl, Below.refl _ _⟩
  · obtain ⟨g, o, rfl, hg, hcell⟩ := hx h0
    have e1 : (ts.map sb).length = ts.length := List.length_map _
    have e2 : (ts.map sb).map (fun s : ByteArray => s.data.toList) = ts := by rw [List.map_map]; exact List.map_id' ts
    have h2 := Tryz.strings_Join g o c (ts.map sb) ⟨#[32]⟩ w (fun j x hj => hcell j _ (by
        unfold scells
        rw [List.getElem?_map] at hj ⊢
        cases hq : ts[j]? with
        | none => rw [hq] at hj; cases hj
        | some y => rw [hq] at hj; simp only [Option.map_some, Option.some.injEq] at hj ⊢; rw [hj])) hg (by rw [e1]; omega) (by rw [e1]; exact hc) (by rw [e2]; exact Nat.le_trans hL (by decide))
    rw [e1, e2] at h2
    refine h2.mono ?_
    rintro e w' ⟨rfl, hb⟩
    exact ⟨_, rfl, rfl, hb⟩

set_option maxRecDepth 100000 in
set_option maxHeartbeats 4000000 in
theorem texts_any (v : Value) (ts : List (List UInt8)) (w : World) (h : TxR w v ts) (hn : ts.length ≤ 1048576) (hL : (joinL ts).length ≤ 1100000000) :
    Calls Tryz.prog 160 #[v] w (StrPost (joinL ts) w) := by
  obtain ⟨i0, hi, hz0, hz1, hz2⟩ := info_parts infoString
  obtain ⟨A, c, rfl, hc, hm⟩ := h.form
  have H := Lib.hid h
  clear h
  obtain ⟨n, hnn⟩ : ∃ n, ts.length = n := ⟨_, rfl⟩
  rw [hnn] at hn hc H
  rw [hnn]
  have HN := Lib.hid hnn
  clear hnn
  go_enter Tryz.func160, Tryz.ntmps160
  go_wp2
  go_loopw [3, 8] (fun v i wr => ∃ k : Nat, k ≤ n ∧ i = .int .i64 k ∧ wr.ownsRow w.heap.size 9 1 v (ts.take k).length (scells (ts.take k)) ∧ Below w.heap.size w wr) (fun _ i _ => n - (intOf i).toNat)
  case atStart => exact ⟨0, Nat.zero_le _, rfl, World.ownsRow_nil _ _ _ _, Below.refl _ _⟩
  case round =>
    obtain ⟨k, hk, rfl, hown, hbr⟩ := hrel
    by_cases hlt : k < n
    · have hkl : k < ts.length := by rw [HN.out]; exact hlt
      obtain ⟨g, o, c', b, hA, hg, hc1, hc2⟩ := H.out.at_ hkl
      rw [HN.out] at hA
      simp only [Value.slice.injEq, true_and] at hA
      obtain ⟨rfl, rfl⟩ := hA
      have k1 := (hbr.cell (p := ⟨g, o + k * 2, none⟩) hg).trans hc1
      have k2 := (hbr.cell (p := ⟨g, o + k * 2 + 1, none⟩) hg).trans hc2
      obtain ⟨t, ht⟩ : ∃ t, sb ts[k] = t := ⟨_, rfl⟩
      rw [ht] at k1
      have HT : Hid (ts[k] = bl t) := by unfold Hid; rw [← ht, bl_sb]
      have HS : Hid (ts.take (k + 1) = ts.take k ++ [bl t]) := by unfold Hid; rw [take_at hkl, HT.out]
      have hlk : (ts.take k).length ≤ k := List.length_take_le _ _
      clear hc1 hc2 ht HT hkl hg
      obtain ⟨done, hdone⟩ : ∃ d, ts.take k = d := ⟨_, rfl⟩
      rw [hdone] at hown hlk HS
      clear hdone
      go_wp2_with (at_builtin; refine wpList_append_own _ rfl (.tmp 12) (.tmp 15) 35 rfl w.heap.size 9 i0 (.string ⟨#[]⟩) 1 16 Tryz.underlying35 hi hz0 hz1 hz2 rfl (by decide) _ _ _ rfl ((hown.alloc _).alloc _) ⟨wr.heap.size + 1, 0, none⟩ 1 1 [.string t] rfl rfl (cell_one_new2 _ _ _ _) (by intro u hu; simp at hu; rcases hu with rfl; rfl) (by unfold maxLen; omega) (by omega) (by have := hbr.size; simp; omega) ?_)
      intro v' w' hown' hgrow _
      have R := string_step (hown.alloc _).lt (hbr.alloc hbr.size _) hown' hgrow (by have := hbr.size; simp; omega)
      clear hown hown' hgrow
      rw [← HS.out] at R
      go_wp2
      go_roundw
      case rel => exact ⟨k + 1, hlt, by go_num, R.1, R.2⟩
      case measure => simp [intOf]; omega
    · have HF : Hid (ts.take k = ts) := List.take_of_length_le (by have := HN.out; omega)
      rw [HF.out] at hown
      have hrd := Rd.of_own hown
      clear hown
      go_wp2_with fail
      refine (join_call _ ts _ hrd hL (by have := HN.out; omega)).mono ?_
      rintro e w' ⟨t, rfl, ht, hb⟩
      go_wp2
      go_ret
      exact ⟨_, rfl, ht, Below.then_ hbr hb⟩

end Go.Proofs.YtakgcdefbbgdaaaGreatDoor
