/-
  Several texts as one.
  Contracts: fixed.Add and the reference's Add: the sum, or the nearest int64.
  The verdict on a way: plain words, maps of lengths.
  Contract: slices.Contains at hops, by the shelf's law for structs.
  Contract: the verdict on a way: airway.CheckWay.
-/
import Derived.Test.YtgnnblkpjankgaaGreatDoorMWay
import Derived.Test.YtgnnblkpjankgaaGreatDoorMSho
import Derived.Shelf.SlicesQ.Contains
import Derived.Laws.StructEq
namespace Go.Proofs.YtgnnblkpjankgaaGreatDoor
open Go.RowKit Go.Lib
set_option linter.unusedVariables false
set_option linter.unusedSimpArgs false
theorem satA_in {a b : Int} (h : -9223372036854775808 ≤ a + b ∧ a + b ≤ 9223372036854775807) : satA a b = a + b := by
  unfold satA; rw [if_neg (by omega), if_neg (by omega)]
theorem satA_hi {a b : Int} (h : 9223372036854775807 < a + b) : satA a b = 9223372036854775807 := by
  unfold satA; rw [if_neg (by omega), if_pos h]
theorem satA_lo {a b : Int} (h : a + b < -9223372036854775808) : satA a b = -9223372036854775808 := by
  unfold satA; rw [if_pos h]
set_option maxHeartbeats 2000000 in
theorem limit_any (x : Bool) (w : World) : Calls Tryz.prog 54 #[.bool x] w fun e w' => e = .returned (.int .i64 (if x then -9223372036854775808 else 9223372036854775807)) ∧ Below w.heap.size w w' := by
  cases x
  · go_enter Tryz.func54, Tryz.ntmps54
    go_wp2
    go_ret
    exact ⟨rfl, Below.refl _ _⟩
  · go_enter Tryz.func54, Tryz.ntmps54
    go_wp2
    go_ret
    exact ⟨rfl, Below.refl _ _⟩
set_option maxHeartbeats 4000000 in
theorem add_any (a b : Int) (w : World) (ha : -9223372036854775808 ≤ a ∧ a ≤ 9223372036854775807) (hb : -9223372036854775808 ≤ b ∧ b ≤ 9223372036854775807) :
    Calls Tryz.prog 22 #[.int .i64 a, .int .i64 b] w fun e w' => e = .returned (.int .i64 (satA a b)) ∧ Below w.heap.size w w' := by
  obtain ⟨s, hs⟩ : ∃ s, IntKind.i64.wrap (a + b) = s := ⟨_, rfl⟩
  have hsv : s = (if 9223372036854775807 < a + b then a + b - 18446744073709551616 else if a + b < -9223372036854775808 then a + b + 18446744073709551616 else a + b) := by
    rw [← hs, IntKind.wrap_i64]
    split
    · omega
    · split <;> omega
  obtain ⟨r, hr⟩ : ∃ r, satA a b = r := ⟨_, rfl⟩
  have HA := Lib.hid ha
  have HB := Lib.hid hb
  have HR : Hid ((9223372036854775807 < a + b → r = 9223372036854775807) ∧ (a + b < -9223372036854775808 → r = -9223372036854775808) ∧ (-9223372036854775808 ≤ a + b → a + b ≤ 9223372036854775807 → r = a + b)) := by
    rw [← hr]; exact ⟨satA_hi, satA_lo, fun h1 h2 => satA_in ⟨h1, h2⟩⟩
  have HSV := Lib.hid hsv
  rw [hr]
  obtain ⟨pa, hpa⟩ : ∃ p, decide (a < 0) = p := ⟨_, rfl⟩
  obtain ⟨pb, hpb⟩ : ∃ p, decide (b < 0) = p := ⟨_, rfl⟩
  obtain ⟨ps, hps⟩ : ∃ p, decide (s < 0) = p := ⟨_, rfl⟩
  have HPA := Lib.hid hpa
  have HPB := Lib.hid hpb
  have HPS := Lib.hid hps
  clear ha hb hsv hr
  have key : Hid (pa = pb → ps ≠ pa → r = if pa then -9223372036854775808 else 9223372036854775807) := by
    intro h1 h2
    have a1 := HPA.out; have b1 := HPB.out; have s1 := HPS.out
    have hA := HA.out; have hB := HB.out; have hS := HSV.out; have hR := HR.out
    cases pa <;> cases pb <;> cases ps <;> simp at h1 h2 <;> simp only [decide_eq_false_iff_not, decide_eq_true_eq] at a1 b1 s1
    · show r = 9223372036854775807
      refine hR.1 ?_
      split at hS <;> first | omega | (split at hS <;> omega)
    · show r = -9223372036854775808
      refine hR.2.1 ?_
      split at hS <;> first | omega | (split at hS <;> omega)
  have key2 : Hid (pa = pb → ps = pa → r = s) := by
    intro h1 h2
    have a1 := HPA.out; have b1 := HPB.out; have s1 := HPS.out
    have hA := HA.out; have hB := HB.out; have hS := HSV.out; have hR := HR.out
    cases pa <;> cases pb <;> cases ps <;> simp at h1 h2 <;> simp only [decide_eq_false_iff_not, decide_eq_true_eq] at a1 b1 s1
    · split at hS
      · omega
      · split at hS
        · omega
        · rw [hS]; exact hR.2.2 (by omega) (by omega)
    · split at hS
      · omega
      · split at hS
        · omega
        · rw [hS]; exact hR.2.2 (by omega) (by omega)
  have key3 : Hid (pa ≠ pb → r = s) := by
    intro h1
    have a1 := HPA.out; have b1 := HPB.out
    have hA := HA.out; have hB := HB.out; have hS := HSV.out; have hR := HR.out
    cases pa <;> cases pb <;> simp at h1 <;> simp only [decide_eq_false_iff_not, decide_eq_true_eq] at a1 b1
    · split at hS
      · omega
      · split at hS
        · omega
        · rw [hS]; exact hR.2.2 (by omega) (by omega)
    · split at hS
      · omega
      · split at hS
        · omega
        · rw [hS]; exact hR.2.2 (by omega) (by omega)
  clear HPA HPB HPS HA HB HSV HR
  have hg := limit_any pa
  cases pa <;> cases pb <;> cases ps
  case' false.false.false => have hr := key2.out rfl rfl
  case' false.false.true => have hr := key.out rfl (by decide)
  case' false.true.false => have hr := key3.out (by decide)
  case' false.true.true => have hr := key3.out (by decide)
  case' true.false.false => have hr := key3.out (by decide)
  case' true.false.true => have hr := key3.out (by decide)
  case' true.true.false => have hr := key.out rfl (by decide)
  case' true.true.true => have hr := key2.out rfl rfl
  all_goals
    subst hr
    clear key key2 key3
    go_enter Tryz.func22, Tryz.ntmps22
    first
      | (go_wp2_with fail; go_ret; exact ⟨rfl, Below.refl _ _⟩)
      | (go_wp2_with fail
         refine (hg _).mono ?_
         rintro e w' ⟨rfl, hb⟩
         go_wp2
         go_ret
         exact ⟨rfl, hb⟩)
end Go.Proofs.YtgnnblkpjankgaaGreatDoor
namespace Go.Proofs.YtgnnblkpjankgaaGreatDoor
open Go.RowKit Go.Lib
set_option linter.unusedVariables false
set_option linter.unusedSimpArgs false
theorem ascB_iff : ∀ {l : List (Rf × Lb)}, ascB l = true ↔ ∀ i, (h : i + 1 < l.length) → l[i].1 < l[i + 1].1
  | [] => ⟨fun _ i h => absurd h (by simp), fun _ => rfl⟩
  | [a] => ⟨fun _ i h => absurd h (by simp), fun _ => rfl⟩
  | a :: b :: l => by
    have e : ascB (a :: b :: l) = (decide (a.1 < b.1) && ascB (b :: l)) := rfl
    rw [e, Bool.and_eq_true, decide_eq_true_iff, ascB_iff (l := b :: l)]
    constructor
    · intro h i hi
      cases i with
      | zero => exact h.1
      | succ i => exact h.2 i (by simpa using hi)
    · intro h
      exact ⟨h 0 (by simp), fun i hi => h (i + 1) (by simpa using hi)⟩
theorem asc_far {l : List (Rf × Lb)} {n : Nat} (h : ∀ i, (hi : i + 1 < l.length) → i + 1 < n → l[i].1 < l[i + 1].1) : ∀ (d i : Nat) (hd : i + d + 1 < l.length), i + d + 1 < n → l[i].1 < l[i + d + 1].1
  | 0, i, hd, hn => h i hd hn
  | d + 1, i, hd, hn => List.lt_trans (asc_far h d i (by omega) (by omega)) (h (i + d + 1) hd hn)
theorem lk_snoc {l : List (Rf × Lb)} {y : Rf × Lb} (h : ∀ z ∈ l, z.1 ≠ y.1) : lkL (l ++ [y]) = setK (lkL l) y.1 (some y.2.1) := by
  funext r
  by_cases e : r = y.1
  · rw [e, setK_same]
    unfold lkL
    rw [List.find?_append, List.find?_eq_none.2 (fun x hx => by simpa using h x hx)]
    simp
  · rw [setK_other _ _ e]
    unfold lkL
    rw [List.find?_append]
    cases hx : l.find? (fun x => decide (x.1 = r)) with
    | some z => rfl
    | none =>
      have : decide (y.1 = r) = false := decide_eq_false (fun h => e h.symm)
      simp [this]
/-- the table of lengths behind k labels -/
theorem lk_take {l : List (Rf × Lb)} {k : Nat} (hk : k < l.length) (h : ∀ i, (hi : i + 1 < l.length) → i + 1 < k + 1 → l[i].1 < l[i + 1].1) : lkL (l.take (k + 1)) = setK (lkL (l.take k)) l[k].1 (some l[k].2.1) := by
  rw [List.take_add_one, List.getElem?_eq_getElem hk]
  refine lk_snoc fun z hz => ?_
  obtain ⟨i, hi, rfl⟩ := List.getElem_of_mem hz
  rw [List.length_take] at hi
  rw [List.getElem_take]
  intro e
  have h1 := asc_far h (k - i - 1) i (by omega) (by omega)
  have e2 : i + (k - i - 1) + 1 = k := by omega
  simp only [e2] at h1
  rw [e] at h1
  exact List.lt_irrefl _ h1
/-- lengths in a map -/
def rdI : Value → Option (DataW Unit × List MemPlace)
  | .int .i64 n => some (.lit (.int .i64 n), [])
  | _ => none
def elmI : Elm Int where
  val c := .int .i64 c
  dat c := .lit (.int .i64 c)
  rd := rdI
  rd_mk c := rfl
  inv v y h := by
    unfold rdI at h
    split at h
    · simp only [Option.some.injEq] at h
      exact ⟨_, rfl, h.symm⟩
    · cases h
  inj a b h := by
    injection h with h
    injection h with _ h
theorem zeroI64 (w : World) : (zeroValue 2).run Tryz.prog w = .ok (elmI.val 0) w := by kernel_rfl
section
variable {w : World} {ops : Array Oper} {rest : List Oper} {o : Oper} {a : Act} {Q : Exit → Act → World → Prop}
theorem wpList_lookI (hg : o.guard = none) (m x : Operand) (hop : o.op = Op.lookup 78 m x true) (b n : Nat) (mm : Rf → Option Int)
    (hm : a.eval m = .map (some b)) (h : MapF elmI w b n mm) (r : Rf) (hx : a.eval x = .string (sb r)) (hs : r.length ≤ maxLen)
    (hNo : mm r = none → wpList Tryz.prog ops Q rest (a.put o.dst (.tuple #[.int .i64 0, .bool false])) w)
    (hYes : ∀ l : Int, mm r = some l → wpList Tryz.prog ops Q rest (a.put o.dst (.tuple #[.int .i64 l, .bool true])) w) :
    wpList Tryz.prog ops Q (o :: rest) a w := by
  refine wpList_getOkF w hg m x _ hop 2 Tryz.underlying78 0 (zeroI64 w) b n mm hm h (sb r) hx hs ?_
  rw [bl_sb]
  cases hc : mm r with
  | none => exact hNo hc
  | some p => exact hYes p hc
theorem wpList_putI (hg : o.guard = none) (m x v : Operand) (hop : o.op = Op.mapUpdate 78 m x v) (b n : Nat) (mm : Rf → Option Int)
    (hm : a.eval m = .map (some b)) (h : MapF elmI w b n mm) (hn : n < maxLen) (r : Rf) (l : Int) (hx : a.eval x = .string (sb r)) (hv : a.eval v = .int .i64 l) (hs : r.length ≤ maxLen)
    (hK : ∀ w', Hid (MapF elmI w' b (n + 1) (setK mm r (some l))) → Hid (w.grownBy w' (some b)) → wpList Tryz.prog ops Q rest (a.put o.dst undef) w') :
    wpList Tryz.prog ops Q (o :: rest) a w := by
  refine wpList_putF w hg m x v _ hop 2 Tryz.underlying78 b n mm hm h hn (sb r) l hx hv hs ?_
  intro w' h1 h2
  rw [bl_sb] at h1
  exact hK w' h1 h2
end
end Go.Proofs.YtgnnblkpjankgaaGreatDoor
namespace Go.Proofs.YtgnnblkpjankgaaGreatDoor
open Go.RowKit Go.Lib Go.Sort
set_option linter.unusedVariables false
set_option linter.unusedSimpArgs false
def ckRen : Go.Shelf.Ren := ⟨fun | 6 => 55 | 7 => 24 | n => n, fun | 0 => 0 | 3 => 3 | 4 => 4 | 22 => 24 | 24 => 48 | n => n, fun | n => n⟩
theorem ckLays : SlLaysQ.n7 Tryz.prog ckRen where
  mixed := by kernel_rfl
  f6 := ⟨("slices.Index[[]flightdeck/api.Hop,flightdeck/api.Hop]"), by decide, Tryz.func55.trans (congrArg some (by kernel_rfl))⟩
  f7 := ⟨("slices.Contains[[]flightdeck/api.Hop,flightdeck/api.Hop]"), by decide, Tryz.func24.trans (congrArg some (by kernel_rfl))⟩
  t0 := by kernel_rfl
  a0 := fun w => by kernel_rfl
  z0 := fun w => by kernel_rfl
  v0 := fun w => by kernel_rfl
  t3 := by kernel_rfl
  a3 := fun w => by kernel_rfl
  z3 := fun w => by kernel_rfl
  v3 := fun w => by kernel_rfl
  t4 := by kernel_rfl
  a4 := fun w => by kernel_rfl
  z4 := fun w => by kernel_rfl
  v4 := fun w => by kernel_rfl
  t22 := by kernel_rfl
  a22 := fun w => by kernel_rfl
  z22 := fun w => by kernel_rfl
  v22 := fun w => by kernel_rfl
def eqB (x y : Hp) : Bool := decide (x.aw = y.aw) && (decide (x.dst = y.dst) && (decide (x.lo = y.lo) && decide (x.hi = y.hi)))
theorem eqB_iff (x y : Hp) : eqB x y = decide (y = x) := by
  obtain ⟨a, b, c, d⟩ := x
  obtain ⟨e, f, g, h⟩ := y
  unfold eqB
  rw [Bool.eq_iff_iff, Bool.and_eq_true, Bool.and_eq_true, Bool.and_eq_true, decide_eq_true_iff, decide_eq_true_iff, decide_eq_true_iff, decide_eq_true_iff, decide_eq_true_iff]
  simp only [Hp.mk.injEq]
  constructor
  · rintro ⟨rfl, rfl, rfl, rfl⟩; exact ⟨rfl, rfl, rfl, rfl⟩
  · rintro ⟨rfl, rfl, rfl, rfl⟩; exact ⟨rfl, rfl, rfl, rfl⟩
theorem eqHp : EqlAt Tryz.prog 48 (fun x => .agg (hpc x).toArray) eqB := by
  refine ⟨fun x y w => ?_, GuardAt.agg _ (by kernel_rfl)⟩
  have us := Tryz.underlying9
  have ui := Tryz.underlying2
  have a1 := Tryz.isAgg9
  have a2 := Tryz.isAgg2
  have z1 := Tryz.sizeOf9
  have z2 := Tryz.sizeOf2
  have hS : Tryz.prog.underlying 48 = some (.struct (Tryz.prog.fieldsOf 48)) := by kernel_rfl
  have hp : Tryz.prog.stoodInHeld 48 = false := by kernel_rfl
  have s1 := str_eq (t := sb x.aw) (r := sb y.aw)
  have s2 := str_eq (t := sb x.dst) (r := sb y.dst)
  rw [bl_sb, bl_sb] at s1 s2
  unfold eqB
  rw [← s1, ← s2]
  simp only [hpc]
  rw [run_eql_struct, show (10000 : Nat) = 9999 + 1 from rfl, run_equalIn_agg w 9999 48 _ _ hS hp]
  simp only [Program.fieldsOf, Tryz.underlying48]
  clear s1 s2
  go_simp
  by_cases h1 : (sb x.aw).toList = (sb y.aw).toList <;> by_cases h2 : (sb x.dst).toList = (sb y.dst).toList <;> by_cases h3 : x.lo = y.lo <;> by_cases h4 : x.hi = y.hi <;> simp [h1, h2, h3, h4]
set_option maxHeartbeats 1000000 in
theorem index_empty (A : Option Addr) (c : Nat) (x : Hp) (w : World) :
    Calls Tryz.prog 55 #[.slice A 0 c, .agg #[.string (sb x.aw), .string (sb x.dst), .int .i64 x.lo, .int .i64 x.hi]] w fun e w' => e = .returned (.int .i64 (-1)) ∧ Below w.heap.size w w' := by
  obtain ⟨w0, hw0⟩ : ∃ W, w.alloc (.cells #[.string (sb x.aw), .string (sb x.dst), .int .i64 x.lo, .int .i64 x.hi] 48) = W := ⟨_, rfl⟩
  have B0 : Hid (Below w.heap.size w w0) := by rw [← hw0]; exact (Below.refl _ _).alloc (Nat.le_refl _) _
  go_enter Tryz.func55, Tryz.ntmps55
  go_wp2_with fail
  try rw [hw0]
  clear hw0
  go_loopw [8] (fun iv wr => iv = .int .i64 0 ∧ Hid (Below w.heap.size w wr)) (fun _ _ => 0)
  case atStart => exact ⟨rfl, B0⟩
  case round =>
    obtain ⟨rfl, hb⟩ := hrel
    go_wp2
    go_ret
    exact ⟨rfl, hb.out⟩
set_option maxHeartbeats 1000000 in
theorem contains_empty (A : Option Addr) (c : Nat) (x : Hp) (w : World) :
    Calls Tryz.prog 24 #[.slice A 0 c, .agg #[.string (sb x.aw), .string (sb x.dst), .int .i64 x.lo, .int .i64 x.hi]] w fun e w' => e = .returned (.bool false) ∧ Below w.heap.size w w' := by
  obtain ⟨w0, hw0⟩ : ∃ W, w.alloc (.cells #[.string (sb x.aw), .string (sb x.dst), .int .i64 x.lo, .int .i64 x.hi] 48) = W := ⟨_, rfl⟩
  have B0 : Hid (Below w.heap.size w w0) := by rw [← hw0]; exact (Below.refl _ _).alloc (Nat.le_refl _) _
  have C0 : w0.cell? ⟨w.heap.size, 0, none⟩ = some (.string (sb x.aw)) ∧ w0.cell? ⟨w.heap.size, 1, none⟩ = some (.string (sb x.dst)) ∧ w0.cell? ⟨w.heap.size, 2, none⟩ = some (.int .i64 x.lo) ∧ w0.cell? ⟨w.heap.size, 3, none⟩ = some (.int .i64 x.hi) := by rw [← hw0]; simp [go_sem]
  obtain ⟨c0, c1, c2, c3⟩ := C0
  go_enter Tryz.func24, Tryz.ntmps24
  go_wp2_with fail
  try rw [hw0]
  refine (index_empty A c x _).mono ?_
  rintro e w' ⟨rfl, hb⟩
  have HB := Lib.hid (Below.then_ B0.out hb)
  clear hb hw0 c0 c1 c2 c3
  go_wp2
  go_ret
  exact ⟨rfl, HB.out⟩
set_option maxHeartbeats 1000000 in
/-- a hop is among hops -/
theorem contains_any (v : Value) (hl : List Hp) (x : Hp) (w : World) (h : HpsR w v hl) (hn : hl.length ≤ 9000) :
    Calls Tryz.prog 24 #[v, .agg #[.string (sb x.aw), .string (sb x.dst), .int .i64 x.lo, .int .i64 x.hi]] w fun e w' => e = .returned (.bool (decide (x ∈ hl))) ∧ Below w.heap.size w w' := by
  have key : ∀ b off c, v = .slice (some ⟨b, off, none⟩) hl.length c → (∀ j, j < hl.length → ∀ i u, (hpc hl[j]!)[i]? = some u → w.cell? ⟨b, off + j * 4 + i, none⟩ = some u) →
      Calls Tryz.prog 24 #[v, .agg (hpc x).toArray] w fun e w' => e = .returned (.bool (decide (x ∈ hl))) ∧ Below w.heap.size w w' := by
    intro b off c hv hc
    rw [hv]
    refine (AnyQ.slices_Contains ckLays 4 (fun w => by kernel_rfl) (fun w => by kernel_rfl) hpc hpc_len eqB eqHp b off hl.length c hl x w (Nat.le_refl _) (by omega) hc).mono ?_
    rintro e w' ⟨rfl, hb⟩
    refine ⟨?_, hb⟩
    have e : (hl.take hl.length).any (fun y => eqB x y) = decide (x ∈ hl) := by
      rw [List.take_length, Bool.eq_iff_iff, List.any_eq_true, decide_eq_true_iff]
      constructor
      · rintro ⟨y, hy, he⟩
        rw [eqB_iff, decide_eq_true_iff] at he
        rw [← he]; exact hy
      · intro hx
        exact ⟨x, hx, by rw [eqB_iff]; simp⟩
    rw [e]
  rcases Nat.eq_zero_or_pos hl.length with h0 | h0
  · have hnil : hl = [] := List.eq_nil_of_length_eq_zero h0
    subst hnil
    obtain ⟨A, c, rfl, _, _⟩ := h.form
    refine (contains_empty A c x w).mono ?_
    rintro e w' ⟨rfl, hb⟩
    exact ⟨by simp, hb⟩
  · obtain ⟨g, o, c, hv, _⟩ := h.at_ h0
    refine key g o c hv fun j hj i u hu => ?_
    obtain ⟨g', o', c', hv', _, x0, x1, x2, x3⟩ := h.at_ hj
    rw [hv] at hv'
    simp only [Value.slice.injEq, Option.some.injEq, Addr.mk.injEq, true_and, and_true] at hv'
    obtain ⟨⟨rfl, rfl⟩, rfl⟩ := hv'
    rw [getElem!_pos hl j hj] at hu
    match i with
    | 0 => rw [← hu]; exact x0
    | 1 => rw [← hu]; exact x1
    | 2 => rw [← hu]; exact x2
    | 3 => rw [← hu]; exact x3
    | i + 4 => simp [hpc] at hu
end Go.Proofs.YtgnnblkpjankgaaGreatDoor
namespace Go.Proofs.YtgnnblkpjankgaaGreatDoor
open Go.RowKit Go.Lib
set_option linter.unusedVariables false
set_option linter.unusedSimpArgs false
theorem LbsR.at2 {w : World} {v : Value} {l : List (Rf × Lb)} (h : LbsR w v l) {k : Nat} (hk : k < l.length) :
    ∃ g o c, v = .slice (some ⟨g, o, none⟩) l.length c ∧ g < w.heap.size ∧ w.cell? ⟨g, o + k * 3, none⟩ = some (.string (sb l[k].1)) ∧ w.cell? ⟨g, o + k * 3 + 1, none⟩ = some (.int .i64 l[k].2.1) ∧ w.cell? ⟨g, o + k * 3 + 2, none⟩ = some (.int .i64 l[k].2.2) := by
  obtain ⟨hl, A, c, hv, hc, hm, hr⟩ := h
  obtain ⟨g, o, rfl, hg, hx⟩ := hr (by omega)
  obtain ⟨h0, h1, h2⟩ := lbcells_at l k hk
  exact ⟨g, o, c, hv, hg, hx _ _ h0, hx _ _ h1, hx _ _ h2⟩
theorem LbsR.form2 {w : World} {v : Value} {l : List (Rf × Lb)} (h : LbsR w v l) : ∃ A c, v = .slice A l.length c ∧ l.length ≤ c ∧ c ≤ maxLen := Rd.form h
theorem LbsR.below2 {w w' : World} {v : Value} {l : List (Rf × Lb)} (h : LbsR w v l) (hb : Below w.heap.size w w') : LbsR w' v l := Rd.below h hb
/-- hops in memory, in whatever row -/
def RdH (w : World) (v : Value) (l : List Hp) : Prop := Rd w 4 v l.length (hpcells l)
theorem RdH.form {w : World} {v : Value} {l : List Hp} (h : RdH w v l) : ∃ A c, v = .slice A l.length c ∧ l.length ≤ c ∧ c ≤ maxLen := Rd.form h
theorem RdH.below {w w' : World} {v : Value} {l : List Hp} (h : RdH w v l) (hb : Below w.heap.size w w') : RdH w' v l := Rd.below h hb
theorem RdH.at_ {w : World} {v : Value} {l : List Hp} (h : RdH w v l) {k : Nat} (hk : k < l.length) :
    ∃ g o c, v = .slice (some ⟨g, o, none⟩) l.length c ∧ g < w.heap.size ∧ w.cell? ⟨g, o + k * 4, none⟩ = some (.string (sb l[k].aw)) ∧ w.cell? ⟨g, o + k * 4 + 1, none⟩ = some (.string (sb l[k].dst)) ∧ w.cell? ⟨g, o + k * 4 + 2, none⟩ = some (.int .i64 l[k].lo) ∧ w.cell? ⟨g, o + k * 4 + 3, none⟩ = some (.int .i64 l[k].hi) := by
  obtain ⟨hl, A, c, hv, hc, hm, hr⟩ := h
  obtain ⟨g, o, rfl, hg, hx⟩ := hr (by omega)
  obtain ⟨h0, h1, h2, h3⟩ := hpcells_at l k hk
  exact ⟨g, o, c, hv, hg, hx _ _ h0, hx _ _ h1, hx _ _ h2, hx _ _ h3⟩
theorem walk_bad {hp : Rf → List Hp} {s : Rf} : ∀ (l l2 : List Hp) (p : Hp), p ∉ hp (endW s l) → walkOk hp s (l ++ [p] ++ l2) = false := by
  intro l
  induction l generalizing s with
  | nil =>
    intro l2 p hp1
    show (decide (p ∈ hp s) && walkOk hp p.dst l2) = false
    have h2 : p ∉ hp s := hp1
    rw [decide_eq_false h2]; rfl
  | cons a l ih =>
    intro l2 p hp1
    show (decide (a ∈ hp s) && walkOk hp a.dst (l ++ [p] ++ l2)) = false
    rw [ih (s := a.dst) l2 p hp1, Bool.and_false]
def CkPost (L : List Aw) (F : List Fx) (a b : Rf) (y : Wy) (w : World) (e : Ending) (w' : World) : Prop :=
  ∃ er, OpenIs L F a b er ∧ e = .returned (.int .i64 (if er = 0 then ckWay (hopsL L) (wtF F) a b y else er)) ∧ Below w.heap.size w w'
set_option maxRecDepth 100000 in
set_option maxHeartbeats 8000000 in
theorem checkWay_any (v fv hv lv : Value) (L : List Aw) (F : List Fx) (a b : ByteArray) (y : Wy) (w : World) (h : AwsR w v L) (hf : FxsR w fv F) (hz : SzL F) (ha : a.size ≤ maxLen) (hb : b.size ≤ maxLen)
    (hh : RdH w hv y.hops) (hl : LbsR w lv y.labs) (hfl : ∀ x ∈ y.labs, x.1.length ≤ maxLen) (hfb : ∀ x ∈ y.labs, -9223372036854775808 ≤ x.2.1 ∧ x.2.1 ≤ 9223372036854775807) (hhn : y.hops.length ≤ 100000000000) (hln : y.labs.length ≤ 100000000000) :
    Calls Tryz.prog 8 #[v, fv, .string a, .string b, .agg #[hv, .int .i64 y.len, lv]] w (CkPost L F (bl a) (bl b) y w) := by
  have hmm := @run_makeMap Tryz.prog
  obtain ⟨s, rfl⟩ : ∃ s, a = sb s := ⟨bl a, (sb_bl a).symm⟩
  obtain ⟨t, rfl⟩ : ∃ t, b = sb t := ⟨bl b, (sb_bl b).symm⟩
  have hsl : s.length ≤ maxLen := ha
  have htl : t.length ≤ maxLen := hb
  rw [bl_sb, bl_sb]
  obtain ⟨hs, yn, lb⟩ := y
  simp only at hh hl hfl hfb hhn hln ⊢
  have H := Lib.hid h
  have HF := Lib.hid hf
  have HZ := Lib.hid hz
  have HFL := Lib.hid hfl
  have HFB := Lib.hid hfb
  obtain ⟨Ah, ch, rfl, hch, hchm⟩ := hh.form
  obtain ⟨Al, cl, rfl, hcl, hclm⟩ := hl.form2
  unfold maxLen at hchm hclm
  obtain ⟨hn, hhe⟩ : ∃ k, hs.length = k := ⟨_, rfl⟩
  obtain ⟨ln, hle⟩ : ∃ k, lb.length = k := ⟨_, rfl⟩
  have HHE := Lib.hid hhe
  have HLE := Lib.hid hle
  have HH := Lib.hid hh
  have HL := Lib.hid hl
  rw [hhe] at hch hhn HH ⊢
  rw [hle] at hcl hln HL ⊢
  obtain ⟨w0, hw0⟩ : ∃ W, w.alloc (.cells #[.slice Ah hn ch, .int .i64 yn, .slice Al ln cl] 27) = W := ⟨_, rfl⟩
  have B0 : Hid (Below w.heap.size w w0) := by rw [← hw0]; exact (Below.refl _ _).alloc (Nat.le_refl _) _
  have C0 : Hid (w0.cell? ⟨w.heap.size, 0, none⟩ = some (.slice Ah hn ch) ∧ w0.cell? ⟨w.heap.size, 1, none⟩ = some (.int .i64 yn) ∧ w0.cell? ⟨w.heap.size, 2, none⟩ = some (.slice Al ln cl) ∧ w.heap.size < w0.heap.size) := by rw [← hw0]; unfold Hid; simp [go_sem]
  clear h hf hz hfl hfb hhe hle hh hl
  go_enter Tryz.func8, Tryz.ntmps8
  go_wp2_with fail
  try rw [hw0]
  clear hw0
  refine (open_any v fv L F (sb s) (sb t) _ (H.out.below B0.out) (HF.out.below B0.out) HZ.out ha hb).mono ?_
  rintro e w1 ⟨mv, er, rfl, hop, hat, hb1⟩
  rw [bl_sb, bl_sb] at hop
  have HOP := Lib.hid hop
  have HAT := Lib.hid hat
  have B1 := Lib.hid (Below.then_ B0.out hb1)
  have C1 : Hid (w1.cell? ⟨w.heap.size, 0, none⟩ = some (.slice Ah hn ch) ∧ w1.cell? ⟨w.heap.size, 1, none⟩ = some (.int .i64 yn) ∧ w1.cell? ⟨w.heap.size, 2, none⟩ = some (.slice Al ln cl) ∧ w.heap.size < w1.heap.size) := by
    obtain ⟨c0, c1, c2, lt⟩ := C0.out
    exact ⟨(hb1.cell (p := ⟨w.heap.size, 0, none⟩) lt).trans c0, (hb1.cell (p := ⟨w.heap.size, 1, none⟩) lt).trans c1, (hb1.cell (p := ⟨w.heap.size, 2, none⟩) lt).trans c2, Nat.lt_of_lt_of_le lt hb1.size⟩
  clear hop hat hb1 B0 C0
  by_cases h0 : er = 0
  case neg =>
    have e0 : (er != 0) = true := bne_iff_ne.2 h0
    have H0 := Lib.hid h0
    clear h0
    go_wp2
    go_ret
    exact ⟨er, HOP.out, by rw [if_neg H0.out]; rfl, B1.out⟩
  subst h0
  have HA1 := Lib.hid (HAT.out rfl)
  have hlL := chkL_few HOP.out.zero.1
  have HC := Lib.hid HOP.out.zero.1
  have HP : Hid (∀ (n : Int) (w' : World), ckWay (hopsL L) (wtF F) s t ⟨hs, yn, lb⟩ = n → Below w.heap.size w w' → CkPost L F s t ⟨hs, yn, lb⟩ w (.returned (.int .i64 n)) w') := fun n w' h1 h2 => ⟨0, HOP.out, by rw [if_pos rfl, h1], h2⟩
  obtain ⟨w2, hw2⟩ : ∃ W, w1.alloc (.map #[] 0) = W := ⟨_, rfl⟩
  have HW2 := Lib.hid hw2
  have B12 : Hid (Below w1.heap.size w1 w2) := by rw [← hw2]; exact (Below.refl _ _).alloc (Nat.le_refl _) _
  have B2 := Lib.hid (Below.then_ B1.out B12.out)
  have M2 : Hid (MapF elmI w2 w1.heap.size 0 (fun _ => none)) := by rw [← hw2]; exact MapF.made elmI w1
  have C2 : Hid (w2.cell? ⟨w.heap.size, 0, none⟩ = some (.slice Ah hn ch) ∧ w2.cell? ⟨w.heap.size, 1, none⟩ = some (.int .i64 yn) ∧ w2.cell? ⟨w.heap.size, 2, none⟩ = some (.slice Al ln cl) ∧ w.heap.size < w1.heap.size) := by
    obtain ⟨c0, c1, c2, lt⟩ := C1.out
    exact ⟨(B12.out.cell (p := ⟨w.heap.size, 0, none⟩) lt).trans c0, (B12.out.cell (p := ⟨w.heap.size, 1, none⟩) lt).trans c1, (B12.out.cell (p := ⟨w.heap.size, 2, none⟩) lt).trans c2, lt⟩
  obtain ⟨c0, c1, c2, clt⟩ := C1.out
  clear HAT hw2
  go_wp2_with fail
  rw [HW2.out]
  clear HW2 c0 c1 c2 clt
  have lt12 : w1.heap.size < w2.heap.size := M2.out.lt
  go_loopw [45] (fun iv wr => ∃ k : Nat, k ≤ ln ∧ iv = .int .i64 k ∧ Hid (∀ i, (hi : i + 1 < lb.length) → i + 1 < k → lb[i].1 < lb[i + 1].1) ∧ Hid (MapF elmI wr w1.heap.size k (lkL (lb.take k))) ∧ Hid (Below w1.heap.size w1 wr)) (fun iv _ => ln - (intOf iv).toNat)
  case atStart => exact ⟨0, Nat.zero_le _, by first | rfl | go_num, Lib.hid (fun i _ h => absurd h (by omega)), M2, B12⟩
  case round =>
    obtain ⟨k, hk, rfl, hasc, hmap, hbr⟩ := hrel
    obtain ⟨c0, c1, c2, clt⟩ := C1.out
    by_cases hlt : k < ln
    · have hkl : k < lb.length := by rw [HLE.out]; exact hlt
      have HLr := Lib.hid (HL.out.below2 (Below.then_ B1.out hbr.out))
      obtain ⟨gl, ol, cl', hA, hgl, x0, x1, x2⟩ := LbsR.at2 HLr.out hkl
      rw [HLE.out] at hA
      simp only [Value.slice.injEq, true_and] at hA
      obtain ⟨rfl, rfl⟩ := hA
      have hTK : Hid ((∀ i, (hi : i + 1 < lb.length) → i + 1 < k + 1 → lb[i].1 < lb[i + 1].1) → lkL (lb.take (k + 1)) = setK (lkL (lb.take k)) lb[k].1 (some lb[k].2.1)) := fun h => lk_take hkl h
      have hfr := HFL.out _ (List.getElem_mem hkl)
      have hAS : Hid ((k = 0 ∨ ∃ h0 : 0 < k, lb[k - 1].1 < lb[k].1) → ∀ i, (hi : i + 1 < lb.length) → i + 1 < k + 1 → lb[i].1 < lb[i + 1].1) := fun h i hi hik => by
        by_cases e : i + 1 = k
        · subst e
          rcases h with h | ⟨_, h⟩
          · omega
          · simpa using h
        · exact hasc.out i hi (by omega)
      have hNA : Hid ((∃ h0 : 0 < k, ¬ lb[k - 1].1 < lb[k].1) → ascB lb = false) := fun ⟨h0, h⟩ => by
        rw [← Bool.not_eq_true, ascB_iff]
        intro h2
        have := h2 (k - 1) (by omega)
        have e : k - 1 + 1 = k := by omega
        simp only [e] at this
        exact h this
      have hprev : Hid (0 < k → wr.cell? ⟨gl, ol + (k - 1) * 3, none⟩ = some (.string (sb lb[k - 1].1))) := fun h0 => by
        obtain ⟨g', o', c', hA', _, y0, _, _⟩ := LbsR.at2 HLr.out (show k - 1 < lb.length by omega)
        rw [HLE.out] at hA'
        simp only [Value.slice.injEq, true_and, Option.some.injEq, Addr.mk.injEq, and_true] at hA'
        obtain ⟨⟨rfl, rfl⟩, rfl⟩ := hA'
        exact y0
      obtain ⟨⟨r, l1, l2⟩, hy⟩ : ∃ z, lb[k] = z := ⟨_, rfl⟩
      rw [hy] at x0 x1 x2 hfr hTK hAS hNA
      simp only at x0 x1 x2 hfr hTK hAS hNA
      obtain ⟨wb, hwb⟩ : ∃ W, wr.alloc (.cells #[.string (sb r), .int .i64 l1, .int .i64 l2] 59) = W := ⟨_, rfl⟩
      have HWB := Lib.hid hwb
      have BB : Hid (Below wr.heap.size wr wb) := by rw [← hwb]; exact (Below.refl _ _).alloc (Nat.le_refl _) _
      have MB := Lib.hid (hmap.out.below' BB.out)
      have YB : Hid (LbB wr.heap.size r l1 l2 wb) := by rw [← hwb]; exact LbB.new wr r l1 l2 _
      have k2 := (hbr.out.cell (p := ⟨w.heap.size, 2, none⟩) clt).trans c2
      have ltw : w.heap.size < wr.heap.size := Nat.lt_of_lt_of_le clt hbr.out.size
      clear hy hwb hasc hmap
      by_cases hk0 : k = 0
      case' pos =>
        subst hk0
        rw [Nat.zero_mul, Nat.add_zero] at x0 x1 x2
        have HS := Lib.hid (hAS.out (.inl rfl))
        have HT := Lib.hid (hTK.out HS.out)
        clear hAS hTK hNA hprev
        go_wp2_with fail
        go_quiet (fail)
      case' neg =>
        have hkp : 0 < k := by omega
        have kp := hprev.out hkp
        have hgd : Hid (lb[k - 1].1 < r → ∀ i, (hi : i + 1 < lb.length) → i + 1 < k + 1 → lb[i].1 < lb[i + 1].1) := fun h => hAS.out (.inr ⟨hkp, h⟩)
        have hbd : Hid (¬ lb[k - 1].1 < r → ascB lb = false) := fun h => hNA.out ⟨hkp, h⟩
        obtain ⟨p0, hp0⟩ : ∃ p, lb[k - 1].1 = p := ⟨_, rfl⟩
        rw [hp0] at kp hgd hbd
        have s1 : (0 : Int) < (k : Int) := by omega
        have s2 : (0 : Int) ≤ (k : Int) - 1 := by omega
        have s3 : (k : Int) - 1 < (ln : Int) := by omega
        have s4 : (1 : Int) ≤ (k : Int) := by omega
        have s5 : ((k : Int) - 1).toNat = k - 1 := by omega
        have s6 : (k : Int) < (ln : Int) + 1 := by omega
        have s7 : Op.bytesLess (sb p0).toList (sb r).toList = decide (p0 < r) := bLess_sb p0 r
        have s9 : IntKind.i64.wrap ((k : Int) - 1) = (k : Int) - 1 := IntWalk.i64_in _ (by omega)
        clear hAS hNA hprev hp0
        by_cases hpr : p0 < r
        case' pos =>
          have HS := Lib.hid (hgd.out hpr)
          have HT := Lib.hid (hTK.out HS.out)
          rw [decide_eq_true hpr] at s7
          clear hpr hgd hbd hTK
          go_wp2_with fail
          go_quiet (fail)
        case' neg =>
          have HBAD := Lib.hid (hbd.out hpr)
          rw [decide_eq_false hpr] at s7
          have BF : Hid (Below w.heap.size w wb) := Below.then_ B1.out (Below.then_ hbr.out BB.out)
          clear hpr hgd hbd hTK
          go_wp2_with fail
          go_quiet (fail)
          rw [HWB.out]
          go_wp2
          go_ret
          exact HP.out 4 _ (by unfold ckWay; exact if_pos HBAD.out) (below_drewN' BF.out _)
      all_goals
        go_wp2_with (at_mapUpdate; rw [HWB.out]; refine wpList_putI rfl _ _ _ rfl _ _ _ rfl (MB.out.below' (below_drewN' (Below.refl _ _) _)) (by unfold maxLen; omega) r l1 rfl rfl hfr ?_)
        intro w9 hm9 hg9
        have hbs : wr.heap.size ≤ wb.heap.size := BB.out.size
        have BN : Hid (Below w1.heap.size w1 w9) := by
          have h1 := Below.then_ hbr.out BB.out
          exact Below.grown (below_drewN' h1 _) hg9.out (by show w1.heap.size ≤ wb.heap.size; exact Nat.le_trans hbr.out.size hbs) (fun j hj => by injection hj with hj; omega)
        first
          | (have HM9 : Hid (MapF elmI w9 w1.heap.size (k + 1) (lkL (lb.take (k + 1)))) := by unfold Hid; rw [HT.out]; exact hm9.out
             clear hm9 hg9
             go_wp2
             go_roundw
             case rel => exact ⟨k + 1, hlt, by go_num, HS, HM9, BN⟩
             case measure => simp [intOf]; omega)
          | (have HM9 : Hid (MapF elmI w9 w1.heap.size (0 + 1) (lkL (lb.take (0 + 1)))) := by unfold Hid; rw [HT.out]; exact hm9.out
             clear hm9 hg9
             go_wp2
             go_roundw
             case rel => exact ⟨0 + 1, hlt, by go_num, HS, HM9, BN⟩
             case measure => simp [intOf]; omega)
    · have hkn : k = ln := by omega
      subst hkn
      have HASC : Hid (ascB lb = true) := ascB_iff.2 (fun i hi => hasc.out i hi (by rw [← HLE.out]; exact hi))
      have HMP : Hid (MapF elmI wr w1.heap.size k (lkL lb)) := by
        have h1 := hmap.out
        rw [List.take_of_length_le (by rw [HLE.out]; exact Nat.le_refl _)] at h1
        exact h1
      obtain ⟨w3, rfl⟩ : ∃ w3, w3 = wr := ⟨_, rfl⟩
      have B3 := Lib.hid (Below.then_ B1.out hbr.out)
      have D3 : Hid (w3.cell? ⟨w.heap.size, 0, none⟩ = some (.slice Ah hn ch) ∧ w3.cell? ⟨w.heap.size, 1, none⟩ = some (.int .i64 yn) ∧ w3.cell? ⟨w.heap.size, 2, none⟩ = some (.slice Al k cl) ∧ w.heap.size < w3.heap.size) :=
        ⟨(hbr.out.cell (p := ⟨w.heap.size, 0, none⟩) clt).trans c0, (hbr.out.cell (p := ⟨w.heap.size, 1, none⟩) clt).trans c1, (hbr.out.cell (p := ⟨w.heap.size, 2, none⟩) clt).trans c2, Nat.lt_of_lt_of_le clt hbr.out.size⟩
      have HL3 := Lib.hid (HL.out.below2 B3.out)
      have HA3 := Lib.hid (HA1.out.below hbr.out)
      clear hmap hasc hbr c0 c1 c2 C1 C2 M2 B2 B12 HA1 lt12 clt hlt hk
      obtain ⟨d0, d1, d2, dlt⟩ := D3.out
      have hcks : Hid (ckWay (hopsL L) (wtF F) s t ⟨hs, yn, lb⟩ = if lkL lb s ≠ some 0 then 4 else if lb.all (labOk (hopsL L) (wtF F) lb) = false then 9 else if walkOk (hopsL L) s hs = false then 6 else if endW s hs ≠ t then 6 else if yn ≠ sumW (wtF F) s hs then 1 else if lkL lb t ≠ some yn then 11 else 0) := by
        unfold Hid ckWay
        rw [if_neg (by rw [HASC.out]; simp)]
      go_wp2_with (at_lookup; refine wpList_lookI rfl _ _ rfl _ _ _ rfl HMP.out s rfl hsl ?_ ?_)
      next =>
        intro hno
        have HR : Hid (ckWay (hopsL L) (wtF F) s t ⟨hs, yn, lb⟩ = 4) := by unfold Hid; rw [hcks.out, if_pos (by rw [hno]; simp)]
        clear hno
        go_wp2
        go_ret
        exact HP.out 4 _ HR.out B3.out
      intro n0 hn0
      by_cases hz0 : n0 = 0
      case neg =>
        have HR : Hid (ckWay (hopsL L) (wtF F) s t ⟨hs, yn, lb⟩ = 4) := by unfold Hid; rw [hcks.out, if_pos (by rw [hn0]; simpa using hz0)]
        have e0 : (n0 != 0) = true := bne_iff_ne.2 hz0
        clear hn0 hz0
        go_wp2
        go_ret
        exact HP.out 4 _ HR.out B3.out
      subst hz0
      have hck2 : Hid (ckWay (hopsL L) (wtF F) s t ⟨hs, yn, lb⟩ = if lb.all (labOk (hopsL L) (wtF F) lb) = false then 9 else if walkOk (hopsL L) s hs = false then 6 else if endW s hs ≠ t then 6 else if yn ≠ sumW (wtF F) s hs then 1 else if lkL lb t ≠ some yn then 11 else 0) := by
        unfold Hid; rw [hcks.out, if_neg (by rw [hn0]; simp)]
      clear hn0 hcks
      go_wp2_with fail
      go_loopw [85] (fun iv wr => ∃ j : Nat, j ≤ k ∧ iv = .int .i64 j ∧ Hid (∀ z ∈ lb.take j, labOk (hopsL L) (wtF F) lb z = true) ∧ Hid (Below w3.heap.size w3 wr)) (fun iv _ => k - (intOf iv).toNat)
      case atStart => exact ⟨0, Nat.zero_le _, by first | rfl | go_num, Lib.hid (fun z hz => by simp at hz), Lib.hid (Below.refl _ _)⟩
      case round =>
        obtain ⟨j, hj, rfl, hok, hbr⟩ := hrel
        by_cases hlt : j < k
        · have hjl : j < lb.length := by rw [HLE.out]; exact hlt
          have HLr := Lib.hid (HL3.out.below2 hbr.out)
          obtain ⟨gl, ol, cl', hA, hgl, x0, x1, x2⟩ := LbsR.at2 HLr.out hjl
          rw [HLE.out] at hA
          simp only [Value.slice.injEq, true_and] at hA
          obtain ⟨rfl, rfl⟩ := hA
          have hfr := HFL.out _ (List.getElem_mem hjl)
          have hfb := HFB.out _ (List.getElem_mem hjl)
          have hmem : lb[j] ∈ lb := List.getElem_mem hjl
          have hST : Hid (labOk (hopsL L) (wtF F) lb lb[j] = true → ∀ z ∈ lb.take (j + 1), labOk (hopsL L) (wtF F) lb z = true) := fun h z hz => by
            rw [List.take_add_one, List.getElem?_eq_getElem hjl, List.mem_append] at hz
            rcases hz with hz | hz
            · exact hok.out z hz
            · have : z = lb[j] := by simpa using hz
              rw [this]; exact h
          have hBAD : Hid (labOk (hopsL L) (wtF F) lb lb[j] = false → ckWay (hopsL L) (wtF F) s t ⟨hs, yn, lb⟩ = 9) := fun h => by
            rw [hck2.out, if_pos]
            rw [← Bool.not_eq_true, List.all_eq_true]
            intro h2
            rw [h2 _ hmem] at h
            cases h
          obtain ⟨⟨r, l1, l2⟩, hy⟩ : ∃ z, lb[j] = z := ⟨_, rfl⟩
          rw [hy] at x0 x1 x2 hfr hfb hST hBAD
          simp only at x0 x1 x2 hfr hfb
          obtain ⟨w4, hw4⟩ : ∃ W, wr.alloc (.cells #[.string (sb r), .int .i64 l1, .int .i64 l2] 59) = W := ⟨_, rfl⟩
          have HW4 := Lib.hid hw4
          have B4 : Hid (Below w3.heap.size w3 w4) := by rw [← hw4]; exact hbr.out.alloc hbr.out.size _
          have Y4 : Hid (LbB wr.heap.size r l1 l2 w4) := by rw [← hw4]; exact LbB.new wr r l1 l2 _
          have BW4 := Lib.hid (Below.then_ B3.out B4.out)
          clear hy hw4 hok hmem hjl HLr
          go_wp2_with fail
          rw [HW4.out]
          refine (hops_index_any v L (sb r) _ (H.out.below BW4.out) hlL).mono ?_
          rintro e w5 ⟨vh, rfl, hvh, hb5⟩
          rw [bl_sb] at hvh
          have B5 := Lib.hid (Below.then_ B4.out hb5)
          have Y5 := Lib.hid (Y4.out.below hb5)
          have hhl := hopsL_len L r
          have HLO : Hid (labOk (hopsL L) (wtF F) lb (r, (l1, l2)) = (hopsL L r).all (hopOk (wtF F) lb (r, (l1, l2)))) := rfl
          have HFT : Hid (∀ p ∈ hopsL L r, p.dst.length ≤ maxLen) := fun p hp => chkL_fit HC.out p.dst (nxt_mem L r p.dst (List.mem_map.2 ⟨p, hp, rfl⟩))
          obtain ⟨hl, hhe⟩ : ∃ l, hopsL L r = l := ⟨_, rfl⟩
          rw [hhe] at hvh hhl HLO HFT
          obtain ⟨A5, c5, rfl, hc51, hc52⟩ := hvh.form
          unfold maxLen at hc52
          obtain ⟨m, hm⟩ : ∃ k, hl.length = k := ⟨_, rfl⟩
          have HM5 := Lib.hid hm
          have HV := Lib.hid hvh
          rw [hm] at hc51 hhl HV ⊢
          clear hvh hhe hm hb5 HW4 x0 x1 x2 hgl
          go_wp2_with fail
          go_loopw [94] (fun iv wr => ∃ i : Nat, i ≤ m ∧ iv = .int .i64 i ∧ Hid (∀ p ∈ hl.take i, hopOk (wtF F) lb (r, (l1, l2)) p = true) ∧ Hid (Below w5.heap.size w5 wr)) (fun iv _ => m - (intOf iv).toNat)
          case atStart => exact ⟨0, Nat.zero_le _, by first | rfl | go_num, Lib.hid (fun z hz => by simp at hz), Lib.hid (Below.refl _ _)⟩
          case round =>
            obtain ⟨i, hi, rfl, hok2, hbr2⟩ := hrel
            by_cases hlt2 : i < m
            · have hil : i < hl.length := by rw [HM5.out]; exact hlt2
              obtain ⟨g5, o5, c5', hA, hg5, x0, x1, x2, x3⟩ := (HV.out.below hbr2.out).at_ hil
              rw [HM5.out] at hA
              simp only [Value.slice.injEq, true_and] at hA
              obtain ⟨rfl, rfl⟩ := hA
              have hpf := HFT.out _ (List.getElem_mem hil)
              have hmem2 : hl[i] ∈ hl := List.getElem_mem hil
              have hST2 : Hid (hopOk (wtF F) lb (r, (l1, l2)) hl[i] = true → ∀ z ∈ hl.take (i + 1), hopOk (wtF F) lb (r, (l1, l2)) z = true) := fun h z hz => by
                rw [List.take_add_one, List.getElem?_eq_getElem hil, List.mem_append] at hz
                rcases hz with hz | hz
                · exact hok2.out z hz
                · have : z = hl[i] := by simpa using hz
                  rw [this]; exact h
              have hB2 : Hid (hopOk (wtF F) lb (r, (l1, l2)) hl[i] = false → ckWay (hopsL L) (wtF F) s t ⟨hs, yn, lb⟩ = 9) := fun h => by
                refine hBAD.out ?_
                rw [HLO.out, ← Bool.not_eq_true, List.all_eq_true]
                intro h2
                rw [h2 _ hmem2] at h
                cases h
              obtain ⟨p, hp⟩ : ∃ z, hl[i] = z := ⟨_, rfl⟩
              rw [hp] at x0 x1 x2 x3 hpf hST2 hB2
              obtain ⟨w6, hw6⟩ : ∃ W, wr.alloc (.cells #[.string (sb p.aw), .string (sb p.dst), .int .i64 p.lo, .int .i64 p.hi] 48) = W := ⟨_, rfl⟩
              have HW6 := Lib.hid hw6
              have B56 : Hid (Below w5.heap.size w5 w6) := by rw [← hw6]; exact hbr2.out.alloc hbr2.out.size _
              have BW6 := Lib.hid (Below.then_ B3.out (Below.then_ B5.out B56.out))
              have M6 := Lib.hid (HMP.out.below' (Below.then_ B5.out B56.out))
              have N6 : Hid (w6.cell? ⟨wr.heap.size, 1, none⟩ = some (.string (sb p.dst)) ∧ wr.heap.size < w6.heap.size) := by rw [← hw6]; unfold Hid; simp [go_sem]
              clear hp hil hmem2 hw6 hok2
              go_wp2_with (at_lookup; rw [HW6.out]; refine wpList_lookI rfl _ _ rfl _ _ _ rfl M6.out p.dst rfl hpf ?_ ?_)
              next =>
                intro hno
                have HR : Hid (ckWay (hopsL L) (wtF F) s t ⟨hs, yn, lb⟩ = 9) := hB2.out (by unfold hopOk; rw [hno])
                clear hno
                go_wp2_with fail
                go_quiet (fail)
                go_wp2
                go_ret
                exact HP.out 9 _ HR.out (below_drewN' BW6.out _)
              intro n1 hn1
              have A6 := Lib.hid (HA3.out.below (Below.then_ B5.out B56.out))
              have Y6 := Lib.hid (Y5.out.below B56.out)
              have hdb := wtF_bd F r p.dst
              have ln := fun q : BelBy w6 => length_any mv F (sb r) (sb p.dst) q.x (A6.out.below q.h) hfr hpf
              simp only [bl_sb] at ln
              have HOK : Hid (hopOk (wtF F) lb (r, (l1, l2)) p = decide (n1 ≤ satA l1 (wtF F r p.dst))) := by unfold Hid hopOk; rw [hn1]
              obtain ⟨dd, hdd⟩ : ∃ d, wtF F r p.dst = d := ⟨_, rfl⟩
              rw [hdd] at hdb HOK
              simp only [hdd] at ln
              have ad2 := fun q : BelBy w6 => add_any l1 dd q.x hfb (by omega)
              obtain ⟨sv, hsv⟩ : ∃ x, satA l1 dd = x := ⟨_, rfl⟩
              rw [hsv] at HOK
              simp only [hsv] at ad2
              have a0 := fun q : BelBy w6 => (Y6.out.below q.h).c0
              have a1 := fun q : BelBy w6 => (Y6.out.below q.h).c1
              have b1 := fun q : BelBy w6 => (q.h.cell (p := ⟨wr.heap.size, 1, none⟩) N6.out.2).trans N6.out.1
              have hmix := mixedD
              have HHFB := Lib.hid hfb
              have HDB := Lib.hid hdb
              clear hdd hsv hn1 hdb hfb
              by_cases hgt : sv < n1
              · have g1 : decide (sv < n1) = true := decide_eq_true hgt
                have HR : Hid (ckWay (hopsL L) (wtF F) s t ⟨hs, yn, lb⟩ = 9) := hB2.out (by rw [HOK.out]; exact decide_eq_false (by omega))
                clear hgt
                go_wp2_with fail
                refine wp_region_quiet_bel (by assumption) (by kernel_rfl) ?_
                repeat (quiet_step (first | (go_at_call 23; exact Calls.bel_of (ln _)) | (go_at_call 22; exact Calls.bel_of (ad2 _))))
                refine wpQuiet_nil ?_
                rintro wz ⟨pw, hwz⟩
                have BZ : Hid (Below w.heap.size w wz) := by rw [hwz]; exact Below.then_ BW6.out pw.h
                clear hwz pw a0 a1 b1 ln ad2
                go_wp2
                go_ret
                exact HP.out 9 _ HR.out BZ.out
              · have g1 : decide (sv < n1) = false := decide_eq_false hgt
                have HR := Lib.hid (hST2.out (by rw [HOK.out]; exact decide_eq_true (by omega)))
                clear hgt
                go_wp2_with fail
                refine wp_region_quiet_bel (by assumption) (by kernel_rfl) ?_
                repeat (quiet_step (first | (go_at_call 23; exact Calls.bel_of (ln _)) | (go_at_call 22; exact Calls.bel_of (ad2 _))))
                refine wpQuiet_nil ?_
                rintro wz ⟨pw, hwz⟩
                have BZ : Hid (Below w5.heap.size w5 wz) := by rw [hwz]; exact Below.then_ B56.out pw.h
                clear hwz pw a0 a1 b1 ln ad2
                go_wp2
                go_roundw
                case rel => exact ⟨i + 1, hlt2, by go_num, HR, BZ⟩
                case measure => simp [intOf]; omega
            · have him : m = i := by omega
              subst him
              have HS := Lib.hid (hST.out (by
                rw [HLO.out, List.all_eq_true]
                have h1 := hok2.out
                rw [List.take_of_length_le (by rw [HM5.out]; exact Nat.le_refl _)] at h1
                exact h1))
              have BN := Lib.hid (Below.then_ B5.out hbr2.out)
              clear hok2 hbr2
              go_wp2
              go_roundw
              case rel => exact ⟨j + 1, hlt, by go_num, HS, BN⟩
              case measure => simp [intOf]; omega
        · have hjk : j = k := by omega
          subst hjk
          have HALL : Hid (lb.all (labOk (hopsL L) (wtF F) lb) = true) := by
            unfold Hid
            rw [List.all_eq_true]
            have h1 := hok.out
            rw [List.take_of_length_le (by rw [HLE.out]; exact Nat.le_refl _)] at h1
            exact h1
          have hck3 : Hid (ckWay (hopsL L) (wtF F) s t ⟨hs, yn, lb⟩ = if walkOk (hopsL L) s hs = false then 6 else if endW s hs ≠ t then 6 else if yn ≠ sumW (wtF F) s hs then 1 else if lkL lb t ≠ some yn then 11 else 0) := by
            unfold Hid; rw [hck2.out, if_neg (by rw [HALL.out]; simp)]
          obtain ⟨w4, rfl⟩ : ∃ w4, w4 = wr := ⟨_, rfl⟩
          have B4 := Lib.hid (Below.then_ B3.out hbr.out)
          have M4 := Lib.hid (HMP.out.below' hbr.out)
          have A4 := Lib.hid (HA3.out.below hbr.out)
          have k0 := (hbr.out.cell (p := ⟨w.heap.size, 0, none⟩) dlt).trans d0
          have k1 := (hbr.out.cell (p := ⟨w.heap.size, 1, none⟩) dlt).trans d1
          have klt : w.heap.size < w4.heap.size := Nat.lt_of_lt_of_le dlt hbr.out.size
          clear hok hbr hck2 d0 d1 d2 dlt D3
          go_wp2_with fail
          go_loopw [24, 25, 126] (fun av sv iv wr => ∃ (i : Nat) (x : Rf) (sm : Int), i ≤ hn ∧ iv = .int .i64 i ∧ av = .string (sb x) ∧ sv = .int .i64 sm ∧ Hid (walkOk (hopsL L) s (hs.take i) = true ∧ endW s (hs.take i) = x ∧ sumW (wtF F) s (hs.take i) = sm) ∧ 0 ≤ sm ∧ sm ≤ i * 64800000 ∧ x.length ≤ maxLen ∧ Hid (Below w4.heap.size w4 wr)) (fun _ _ iv _ => hn - (intOf iv).toNat)
          case atStart => exact ⟨0, s, 0, Nat.zero_le _, by first | rfl | go_num, rfl, rfl, Lib.hid ⟨rfl, rfl, rfl⟩, by omega, by omega, hsl, Lib.hid (Below.refl _ _)⟩
          case round =>
            obtain ⟨i, x, sm, hi, rfl, rfl, rfl, hwk, hlo, hhi, hxl, hbr⟩ := hrel
            by_cases hlt : i < hn
            · have hil : i < hs.length := by rw [HHE.out]; exact hlt
              have BWr := Lib.hid (Below.then_ B4.out hbr.out)
              obtain ⟨g5, o5, c5', hA, hg5, x0, x1, x2, x3⟩ := (HH.out.below BWr.out).at_ hil
              rw [HHE.out] at hA
              simp only [Value.slice.injEq, true_and] at hA
              obtain ⟨rfl, rfl⟩ := hA
              have hTK : Hid (hs.take (i + 1) = hs.take i ++ [hs[i]]) := by unfold Hid; rw [List.take_add_one, List.getElem?_eq_getElem hil]; rfl
              obtain ⟨p, hp⟩ : ∃ z, hs[i] = z := ⟨_, rfl⟩
              rw [hp] at x0 x1 x2 x3 hTK
              obtain ⟨w6, hw6⟩ : ∃ W, wr.alloc (.cells #[.string (sb p.aw), .string (sb p.dst), .int .i64 p.lo, .int .i64 p.hi] 48) = W := ⟨_, rfl⟩
              have HW6 := Lib.hid hw6
              have B46 : Hid (Below w4.heap.size w4 w6) := by rw [← hw6]; exact hbr.out.alloc hbr.out.size _
              have N6 : Hid (w6.cell? ⟨wr.heap.size, 0, none⟩ = some (.string (sb p.aw)) ∧ w6.cell? ⟨wr.heap.size, 1, none⟩ = some (.string (sb p.dst)) ∧ w6.cell? ⟨wr.heap.size, 2, none⟩ = some (.int .i64 p.lo) ∧ w6.cell? ⟨wr.heap.size, 3, none⟩ = some (.int .i64 p.hi) ∧ wr.heap.size < w6.heap.size) := by rw [← hw6]; unfold Hid; simp [go_sem]
              clear hp hil hw6
              have HX6 := Lib.hid (H.out.below (Below.then_ B4.out B46.out))
              have A6 := Lib.hid (A4.out.below B46.out)
              have hhl := hopsL_len L x
              obtain ⟨n0, n1, n2, n3, nlt⟩ := N6.out
              have hw0 := wtF_bd F x p.dst
              by_cases hin : p ∈ hopsL L x
              · have hmx : p.dst ∈ nxt L x := List.mem_map.2 ⟨p, hin, rfl⟩
                have hpf : p.dst.length ≤ maxLen := chkL_fit HC.out p.dst (nxt_mem L x p.dst hmx)
                have ct := fun (vh : Value) (wq : World) (hq : HpsR wq vh (hopsL L x)) => contains_any vh (hopsL L x) p wq hq (by omega)
                simp only [decide_eq_true hin] at ct
                have HW : Hid (walkOk (hopsL L) s (hs.take (i + 1)) = true ∧ endW s (hs.take (i + 1)) = p.dst ∧ sumW (wtF F) s (hs.take (i + 1)) = sm + wtF F x p.dst) := by
                  unfold Hid
                  obtain ⟨h1, h2, h3⟩ := hwk.out
                  obtain ⟨k1, k2, k3⟩ := walk_snoc (hp := hopsL L) (wt := wtF F) s (hs.take i) p
                  rw [hTK.out, k1, k2, k3, h1, h2, h3]
                  exact ⟨by simp [hin], rfl, rfl⟩
                have hs1 : IntKind.i64.wrap (sm + wtF F x p.dst) = sm + wtF F x p.dst := IntWalk.i64_in _ (by omega)
                have hs2 : 0 ≤ sm + wtF F x p.dst := by omega
                have hs3 : sm + wtF F x p.dst ≤ ((i + 1 : Nat) : Int) * 64800000 := by omega
                have HXL := Lib.hid hxl
                have hi1 : i + 1 ≤ hn := hlt
                obtain ⟨dd, hdd⟩ : ∃ z, wtF F x p.dst = z := ⟨_, rfl⟩
                rw [hdd] at hs1 hs2 hs3 HW
                obtain ⟨sm2, hsm2⟩ : ∃ z, sm + dd = z := ⟨_, rfl⟩
                rw [hsm2] at hs2 hs3 HW
                have hs1 : IntKind.i64.wrap (sm + dd) = sm2 := by rw [hs1, hsm2]
                have HDD := Lib.hid hdd
                have HSM2 := Lib.hid hsm2
                have HS23 : Hid (0 ≤ sm2 ∧ sm2 ≤ ((i + 1 : Nat) : Int) * 64800000) := ⟨hs2, hs3⟩
                have HS1 := Lib.hid hs1
                clear hmx hin hwk hTK hw0 hdd hsm2 hs1 hs2 hs3 hlo hhi hg5
                go_wp2_with fail
                rw [HW6.out]
                clear HW6 x0 x1 x2 x3
                go_region_with
                  (first
                  | (go_at_call 21; refine (hops_index_any v L (sb x) _ (HX6.out.below (by repeat (first | exact Below.refl _ _ | refine Below.drew ?_))) hlL).mono ?_; rintro e w7 ⟨vh, rfl, hvh, hb7⟩; rw [bl_sb] at hvh; have HV7 := Lib.hid hvh; have m0 := (hb7.cell (p := ⟨wr.heap.size, 0, none⟩) nlt).trans n0; have m1 := (hb7.cell (p := ⟨wr.heap.size, 1, none⟩) nlt).trans n1; have m2 := (hb7.cell (p := ⟨wr.heap.size, 2, none⟩) nlt).trans n2; have m3 := (hb7.cell (p := ⟨wr.heap.size, 3, none⟩) nlt).trans n3; have B67 : Hid (Below w6.heap.size w6 w7) := Below.then_ (by repeat (first | exact Below.refl _ _ | refine Below.drew ?_)) hb7; clear hvh hb7)
                  | (go_at_call 24; refine (ct _ _ (HV7.out.below (by repeat (first | exact Below.refl _ _ | refine Below.drew ?_)))).mono ?_; rintro e w8 ⟨rfl, hb8⟩; have B78 : Hid (Below w7.heap.size w7 w8) := Below.then_ (by repeat (first | exact Below.refl _ _ | refine Below.drew ?_)) hb8; clear hb8))
                all_goals
                  have B68 := Lib.hid (Below.then_ B67.out B78.out)
                  have A8 := Lib.hid (A6.out.below B68.out)
                  have m1 := (B68.out.cell (p := ⟨wr.heap.size, 1, none⟩) nlt).trans n1
                  have hxl2 := HXL.out
                  go_wp2_with fail
                  refine (length_any mv F (sb x) (sb p.dst) _ A8.out hxl2 hpf).mono ?_
                  rintro e w9 ⟨rfl, hb9⟩
                  rw [bl_sb, bl_sb, HDD.out]
                  have BN := Lib.hid (Below.then_ B46.out (Below.then_ B68.out hb9))
                  have m9 := (hb9.cell (p := ⟨wr.heap.size, 1, none⟩) (Nat.lt_of_lt_of_le nlt B68.out.size)).trans m1
                  have hs1 := HS1.out
                  clear hb9 m1
                  go_wp2
                  go_roundw
                  case rel => exact ⟨i + 1, p.dst, sm2, hi1, by go_num, rfl, by first | rfl | exact congrArg (Value.int IntKind.i64) HSM2.out, HW, HS23.out.1, HS23.out.2, hpf, BN⟩
                  case measure => simp [intOf]; omega
              · have ct := fun (vh : Value) (wq : World) (hq : HpsR wq vh (hopsL L x)) => contains_any vh (hopsL L x) p wq hq (by omega)
                simp only [decide_eq_false hin] at ct
                have HR : Hid (ckWay (hopsL L) (wtF F) s t ⟨hs, yn, lb⟩ = 6) := by
                  unfold Hid
                  rw [hck3.out, if_pos]
                  obtain ⟨h1, h2, h3⟩ := hwk.out
                  rw [← List.take_append_drop (i + 1) hs, hTK.out]
                  exact walk_bad (hs.take i) (hs.drop (i + 1)) p (by rw [h2]; exact hin)
                have BWE := Lib.hid (Below.then_ B4.out B46.out)
                clear hin hwk hTK hw0 hlo hhi hg5 hck3
                go_wp2_with fail
                rw [HW6.out]
                clear HW6 x0 x1 x2 x3
                go_region_with
                  (first
                  | (go_at_call 21; refine (hops_index_any v L (sb x) _ (HX6.out.below (by repeat (first | exact Below.refl _ _ | refine Below.drew ?_))) hlL).mono ?_; rintro e w7 ⟨vh, rfl, hvh, hb7⟩; rw [bl_sb] at hvh; have HV7 := Lib.hid hvh; have m0 := (hb7.cell (p := ⟨wr.heap.size, 0, none⟩) nlt).trans n0; have m1 := (hb7.cell (p := ⟨wr.heap.size, 1, none⟩) nlt).trans n1; have m2 := (hb7.cell (p := ⟨wr.heap.size, 2, none⟩) nlt).trans n2; have m3 := (hb7.cell (p := ⟨wr.heap.size, 3, none⟩) nlt).trans n3; have B67 : Hid (Below w6.heap.size w6 w7) := Below.then_ (by repeat (first | exact Below.refl _ _ | refine Below.drew ?_)) hb7; clear hvh hb7)
                  | (go_at_call 24; refine (ct _ _ (HV7.out.below (by repeat (first | exact Below.refl _ _ | refine Below.drew ?_)))).mono ?_; rintro e w8 ⟨rfl, hb8⟩; have B78 : Hid (Below w7.heap.size w7 w8) := Below.then_ (by repeat (first | exact Below.refl _ _ | refine Below.drew ?_)) hb8; clear hb8))
                all_goals
                  have BZ := Lib.hid (Below.then_ BWE.out (Below.then_ B67.out B78.out))
                  go_wp2
                  go_ret
                  exact HP.out 6 _ HR.out BZ.out
            · have hin : i = hn := by omega
              subst hin
              have HT : hs.take i = hs := List.take_of_length_le (by rw [HHE.out]; exact Nat.le_refl _)
              rw [HT] at hwk
              have hck4 : Hid (ckWay (hopsL L) (wtF F) s t ⟨hs, yn, lb⟩ = if x ≠ t then 6 else if yn ≠ sm then 1 else if lkL lb t ≠ some yn then 11 else 0) := by
                obtain ⟨q1, q2, q3⟩ := hwk.out
                unfold Hid; rw [hck3.out, q1, q2, q3, if_neg (by simp)]
              have BE := Lib.hid (Below.then_ B4.out hbr.out)
              have ME := Lib.hid (M4.out.below' hbr.out)
              have m1 := (hbr.out.cell (p := ⟨w.heap.size, 1, none⟩) klt).trans k1
              clear HT hwk hck3 hbr k0 k1
              by_cases hxt : x = t
              case neg =>
                have e1 : ((sb x).toList == (sb t).toList) = false := by rw [str_eq, bl_sb, bl_sb]; exact decide_eq_false hxt
                have e2 : ((sb x).toList != (sb t).toList) = true := by unfold bne; rw [e1]; rfl
                have HR : Hid (ckWay (hopsL L) (wtF F) s t ⟨hs, yn, lb⟩ = 6) := by unfold Hid; rw [hck4.out, if_pos hxt]
                clear hxt
                go_wp2
                go_ret
                exact HP.out 6 _ HR.out BE.out
              subst hxt
              by_cases hys : yn = sm
              case neg =>
                have e1 : (yn == sm) = false := beq_eq_false_iff_ne.2 hys
                have e2 : (yn != sm) = true := bne_iff_ne.2 hys
                have HR : Hid (ckWay (hopsL L) (wtF F) s x ⟨hs, yn, lb⟩ = 1) := by unfold Hid; rw [hck4.out, if_neg (by simp), if_pos hys]
                clear hys
                go_wp2
                go_ret
                exact HP.out 1 _ HR.out BE.out
              subst hys
              go_wp2_with (at_lookup; refine wpList_lookI rfl _ _ rfl _ _ _ rfl ME.out x rfl hxl ?_ ?_)
              next =>
                intro hno
                have HR : Hid (ckWay (hopsL L) (wtF F) s x ⟨hs, yn, lb⟩ = 11) := by unfold Hid; rw [hck4.out, if_neg (by simp), if_neg (by simp), if_pos (by rw [hno]; simp)]
                clear hno
                go_wp2
                go_ret
                exact HP.out 11 _ HR.out BE.out
              intro n1 hn1
              by_cases hny : n1 = yn
              case neg =>
                have e1 : (n1 == yn) = false := beq_eq_false_iff_ne.2 hny
                have e2 : (n1 != yn) = true := bne_iff_ne.2 hny
                have HR : Hid (ckWay (hopsL L) (wtF F) s x ⟨hs, yn, lb⟩ = 11) := by unfold Hid; rw [hck4.out, if_neg (by simp), if_neg (by simp), if_pos (by rw [hn1]; simpa using hny)]
                clear hn1 hny
                go_wp2
                go_ret
                exact HP.out 11 _ HR.out BE.out
              subst hny
              have HR : Hid (ckWay (hopsL L) (wtF F) s x ⟨hs, n1, lb⟩ = 0) := by unfold Hid; rw [hck4.out, if_neg (by simp), if_neg (by simp), if_neg (by rw [hn1]; simp)]
              clear hn1
              go_wp2
              go_ret
              exact HP.out 0 _ HR.out BE.out
end Go.Proofs.YtgnnblkpjankgaaGreatDoor
