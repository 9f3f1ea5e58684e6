/-
  Several texts as one.
  Labels in maps; the comparison of labels.
  Contract: the search for the least labels: airway.labels.
-/
import Derived.Test.YtgnnblkpjankgaaGreatDoorMAtl
import Derived.Sort.Walk0
namespace Go.Proofs.YtgnnblkpjankgaaGreatDoor
open Go.RowKit Go.Lib
set_option linter.unusedVariables false
set_option linter.unusedSimpArgs false
theorem bLess_sb (x y : List UInt8) : Op.bytesLess (sb x).toList (sb y).toList = decide (x < y) := by rw [bl_toList, bl_toList, bytesLess_eq, bl_sb, bl_sb]
/-- a label's value -/
def lbV (x : Rf × Lb) : Value := .agg #[.string (sb x.1), .int .i64 x.2.1, .int .i64 x.2.2]
def rdLabL : List Value → Option (DataW Unit × List MemPlace)
  | [.string s, .int .i64 a, .int .i64 b] => some (.agg [.lit (.string (bl s)), .lit (.int .i64 a), .lit (.int .i64 b)], [])
  | _ => none
def rdLab : Value → Option (DataW Unit × List MemPlace)
  | .agg cs => rdLabL cs.toList
  | _ => none
theorem rdLabL_inv {l : List Value} {y : DataW Unit × List MemPlace} (h : rdLabL l = some y) : ∃ s a b, l = [.string s, .int .i64 a, .int .i64 b] ∧ y = (.agg [.lit (.string (bl s)), .lit (.int .i64 a), .lit (.int .i64 b)], []) := by
  unfold rdLabL at h
  split at h
  · simp only [Option.some.injEq] at h
    exact ⟨_, _, _, rfl, h.symm⟩
  · cases h
def elmL : Elm (Rf × Lb) where
  val := lbV
  dat c := .agg [.lit (.string c.1), .lit (.int .i64 c.2.1), .lit (.int .i64 c.2.2)]
  rd := rdLab
  rd_mk c := by
    show some (DataW.agg [.lit (.string (bl (sb c.1))), .lit (.int .i64 c.2.1), .lit (.int .i64 c.2.2)], []) = _
    rw [bl_sb]
  inv v y h := by
    cases v with
    | agg cs =>
      obtain ⟨l⟩ := cs
      obtain ⟨s, a, b, e, hy⟩ := rdLabL_inv (show rdLabL l = some y from h)
      exact ⟨(bl s, (a, b)), by unfold lbV; rw [e, sb_bl], hy⟩
    | _ => cases h
  inj a b h := by
    obtain ⟨a1, a2, a3⟩ := a
    obtain ⟨b1, b2, b3⟩ := b
    simp only [DataW.agg.injEq, List.cons.injEq, DataW.lit.injEq, Lit.string.injEq, Lit.int.injEq, true_and, and_true] at h
    obtain ⟨rfl, rfl, rfl⟩ := h
    rfl
theorem zeroLab (w : World) : (zeroValue 59).run Tryz.prog w = .ok (elmL.val ([], (0, 0))) w := by kernel_rfl
/-- a map of labels, by their references -/
def lm (m : Rf → Option Lb) : Rf → Option (Rf × Lb) := fun x => (m x).map fun l => (x, l)
theorem lm_set (m : Rf → Option Lb) (x : Rf) (c : Option Lb) : setK (lm m) x (c.map fun l => (x, l)) = lm (setF m x c) := by
  funext v
  by_cases h : v = x
  · rw [h, setK_same]; unfold lm; rw [setF_same]
  · rw [setK_other _ _ h]; unfold lm; rw [setF_other _ _ h]
theorem lm_put (m : Rf → Option Lb) (x : Rf) (l : Lb) : setK (lm m) x (some (x, l)) = lm (setF m x (some l)) := lm_set m x (some l)
theorem lm_del (m : Rf → Option Lb) (x : Rf) : setK (lm m) x none = lm (setF m x none) := lm_set m x none
theorem lm_some {m : Rf → Option Lb} {x : Rf} {c : Rf × Lb} (h : lm m x = some c) : c.1 = x ∧ m x = some c.2 := by
  unfold lm at h
  cases hm : m x with
  | none => rw [hm] at h; cases h
  | some l =>
    rw [hm] at h
    simp only [Option.map_some, Option.some.injEq] at h
    rw [← h]
    exact ⟨rfl, rfl⟩
theorem lm_none {m : Rf → Option Lb} {x : Rf} (h : m x = none) : lm m x = none := by unfold lm; rw [h]; rfl
theorem lm_mk {m : Rf → Option Lb} {x : Rf} {l : Lb} (h : m x = some l) : lm m x = some (x, l) := by unfold lm; rw [h]; rfl
/-! ### the laws of maps of labels at their operations -/
section
variable {w : World} {ops : Array Oper} {rest : List Oper} {o : Oper} {a : Act} {Q : Exit → Act → World → Prop}
theorem wpList_lookL (hg : o.guard = none) (m x : Operand) (hop : o.op = Op.lookup 88 m x true) (b n : Nat) (mm : Rf → Option Lb)
    (hm : a.eval m = .map (some b)) (h : MapF elmL w b n (lm mm)) (r : Rf) (hx : a.eval x = .string (sb r)) (hs : r.length ≤ maxLen)
    (hNo : mm r = none → wpList Tryz.prog ops Q rest (a.put o.dst (.tuple #[.agg #[.string ⟨#[]⟩, .int .i64 0, .int .i64 0], .bool false])) w)
    (hYes : ∀ l1 l2 : Int, mm r = some (l1, l2) → wpList Tryz.prog ops Q rest (a.put o.dst (.tuple #[.agg #[.string (sb r), .int .i64 l1, .int .i64 l2], .bool true])) w) :
    wpList Tryz.prog ops Q (o :: rest) a w := by
  refine wpList_getOkF w hg m x _ hop 59 Tryz.underlying88 ([], (0, 0)) (zeroLab w) b n (lm mm) hm h (sb r) hx hs ?_
  rw [bl_sb]
  cases hc : mm r with
  | none => rw [lm_none hc]; exact hNo hc
  | some p => rw [lm_mk hc]; exact hYes p.1 p.2 hc
theorem wpList_readL (hg : o.guard = none) (m x : Operand) (hop : o.op = Op.lookup 88 m x false) (b n : Nat) (mm : Rf → Option Lb)
    (hm : a.eval m = .map (some b)) (h : MapF elmL w b n (lm mm)) (r : Rf) (hx : a.eval x = .string (sb r)) (hs : r.length ≤ maxLen) (l : Lb) (hl : mm r = some l)
    (hK : wpList Tryz.prog ops Q rest (a.put o.dst (.agg #[.string (sb r), .int .i64 l.1, .int .i64 l.2])) w) :
    wpList Tryz.prog ops Q (o :: rest) a w := by
  refine wpList_getF w hg m x _ hop 59 Tryz.underlying88 ([], (0, 0)) (zeroLab w) b n (lm mm) hm h (sb r) hx hs ?_
  rw [bl_sb, lm_mk hl]
  exact hK
theorem wpList_putL (hg : o.guard = none) (m x v : Operand) (hop : o.op = Op.mapUpdate 88 m x v) (b n : Nat) (mm : Rf → Option Lb)
    (hm : a.eval m = .map (some b)) (h : MapF elmL w b n (lm mm)) (hn : n < maxLen) (r : Rf) (l1 l2 : Int) (hx : a.eval x = .string (sb r)) (hv : a.eval v = .agg #[.string (sb r), .int .i64 l1, .int .i64 l2]) (hs : r.length ≤ maxLen)
    (hK : ∀ w', Hid (MapF elmL w' b (n + 1) (lm (setF mm r (some (l1, l2))))) → Hid (w.grownBy w' (some b)) → wpList Tryz.prog ops Q rest (a.put o.dst undef) w') :
    wpList Tryz.prog ops Q (o :: rest) a w := by
  refine wpList_putF w hg m x v _ hop 59 Tryz.underlying88 b n (lm mm) hm h hn (sb r) (r, (l1, l2)) hx hv hs ?_
  intro w' h1 h2
  rw [bl_sb, lm_put] at h1
  exact hK w' h1 h2
theorem wpList_delL (hg : o.guard = none) (m x : Operand) (hop : o.op = Op.call { callee := Callee.builtin Builtin.delete, args := #[m, x], argTypes := #[88, 9] }) (b n : Nat) (mm : Rf → Option Lb)
    (hm : a.eval m = .map (some b)) (h : MapF elmL w b n (lm mm)) (r : Rf) (hx : a.eval x = .string (sb r)) (hs : r.length ≤ maxLen)
    (hK : ∀ w', Hid (MapF elmL w' b n (lm (setF mm r none))) → Hid (w.grownBy w' (some b)) → wpList Tryz.prog ops Q rest (a.put o.dst (.tuple #[])) w') :
    wpList Tryz.prog ops Q (o :: rest) a w := by
  refine wpList_delF w hg m x _ hop 59 Tryz.underlying88 b n (lm mm) hm h (sb r) hx hs ?_
  intro w' h1 h2
  rw [bl_sb, lm_del] at h1
  exact hK w' h1 h2
theorem wpList_lenL (hg : o.guard = none) (m : Operand) (hop : o.op = Op.call { callee := Callee.builtin Builtin.len, args := #[m], argTypes := #[88] }) (b n : Nat) (mm : Rf → Option Lb)
    (hm : a.eval m = .map (some b)) (h : MapF elmL w b n (lm mm))
    (hK : ∀ k : Nat, Hid (k = 0 → ∀ x, mm x = none) → Hid (0 < k → ∃ x, mm x ≠ none) → wpList Tryz.prog ops Q rest (a.put o.dst (.int .i64 (k : Int))) w) :
    wpList Tryz.prog ops Q (o :: rest) a w := by
  refine wpList_lenF w hg m _ hop 59 Tryz.underlying88 b n (lm mm) hm h ?_
  intro k h0 h1
  refine hK k (fun e x => ?_) (fun e => ?_)
  · cases hx : mm x with
    | none => rfl
    | some l => have := h0 e x; rw [lm_mk hx] at this; cases this
  · obtain ⟨x, c, hx⟩ := h1 e
    exact ⟨x, fun h => by rw [lm_none h] at hx; cases hx⟩
theorem wpList_rangeL (hg : o.guard = none) (m : Operand) (hop : o.op = Op.range 88 m) (b n : Nat) (mm : Rf → Option Lb)
    (hm : a.eval m = .map (some b)) (h : MapF elmL w b n (lm mm))
    (hK : ∀ w' cnt, Hid (RngF elmL w' b w.heap.size n (lm mm) (fun x => (mm x).isSome) cnt) → Hid (w.grownBy w' none) → Hid (w'.heap.size = w.heap.size + 1) → wpList Tryz.prog ops Q rest (a.put o.dst (.pointer (some ⟨w.heap.size, 0, none⟩))) w') :
    wpList Tryz.prog ops Q (o :: rest) a w := by
  refine wpList_rangeF w hg m _ hop 59 Tryz.underlying88 b n (lm mm) hm h ?_
  intro w' cnt h1 h2 h3
  refine hK w' cnt ?_ h2 h3
  have e : (fun x => (lm mm x).isSome) = fun x => (mm x).isSome := by
    funext x
    cases hx : mm x with
    | none => rw [lm_none hx]; rfl
    | some l => rw [lm_mk hx]; rfl
  rw [e] at h1
  exact h1
theorem wpList_nextL (hg : o.guard = none) (it : Operand) (hop : o.op = Op.next it false) (b r n : Nat) (mm : Rf → Option Lb) (lf : Rf → Bool) (cnt : Nat)
    (hit : a.eval it = .pointer (some ⟨r, 0, none⟩)) (h : RngF elmL w b r n (lm mm) lf cnt)
    (hDone : Hid (∀ x, lf x = false) → wpList Tryz.prog ops Q rest (a.put o.dst (.tuple #[.bool false])) w)
    (hMore : ∀ (x : Rf) (l1 l2 : Int) (w' : World) (cnt' : Nat), x.length ≤ maxLen → Hid (lf x = true) → Hid (mm x = some (l1, l2)) → (Instr.entry (.pointer (some ⟨r, 0, none⟩))).run Tryz.prog w' = .ok (.tuple #[.string (sb x), .agg #[.string (sb x), .int .i64 l1, .int .i64 l2]]) w' →
      Hid (RngF elmL w' b r n (lm mm) (fun z => lf z && !decide (z = x)) cnt') → cnt' < cnt → Hid (w.grownBy w' (some r)) → w'.heap.size = w.heap.size → wpList Tryz.prog ops Q rest (a.put o.dst (.tuple #[.bool true, .string (sb x), .agg #[.string (sb x), .int .i64 l1, .int .i64 l2]])) w') :
    wpList Tryz.prog ops Q (o :: rest) a w := by
  refine wpList_nextF w hg it hop b r n (lm mm) lf cnt hit h (fun _ hl => hDone hl) ?_
  intro s c w' cnt' hs hl hm hen hrg hlt hgr hsz
  obtain ⟨h1, h2⟩ := lm_some hm
  obtain ⟨c0, c1, c2⟩ := c
  simp only at h1 h2
  subst h1
  have e : elmL.val (bl s, (c1, c2)) = .agg #[.string s, .int .i64 c1, .int .i64 c2] := by
    show lbV _ = _
    unfold lbV
    rw [sb_bl]
  rw [e] at hen ⊢
  have := hMore (bl s) c1 c2 w' cnt' hs hl h2
  rw [sb_bl] at this
  exact this hen hrg hlt hgr hsz
end
set_option maxHeartbeats 1000000 in
theorem less_any (x y : Rf × Lb) (w : World) :
    Calls Tryz.prog 60 #[lbV x, lbV y] w fun e w' => e = .returned (.bool (decide (lx x.2 y.2))) ∧ Below w.heap.size w w' := by
  obtain ⟨r, a, b⟩ := x
  obtain ⟨s, c, d⟩ := y
  have HB : Hid (Below w.heap.size w ((w.alloc (.cells #[.string (sb r), .int .i64 a, .int .i64 b] 59)).alloc (.cells #[.string (sb s), .int .i64 c, .int .i64 d] 59))) := ((Below.refl _ _).alloc (Nat.le_refl _) _).alloc (by simp) _
  have HD : Hid (decide (lx (a, b) (c, d)) = (decide (a < c) || (decide (a = c) && decide (b < d)))) := by
    unfold Hid
    rw [Bool.eq_iff_iff, decide_eq_true_iff, Bool.or_eq_true, Bool.and_eq_true, decide_eq_true_iff, decide_eq_true_iff, decide_eq_true_iff]
    exact Iff.rfl
  show Calls Tryz.prog 60 #[.agg #[.string (sb r), .int .i64 a, .int .i64 b], .agg #[.string (sb s), .int .i64 c, .int .i64 d]] w _
  rw [HD.out]
  clear HD
  by_cases h1 : a < c
  · have d1 : decide (a < c) = true := decide_eq_true h1
    rw [d1]
    go_enter Tryz.func60, Tryz.ntmps60
    go_wp2
    go_ret
    exact ⟨rfl, HB.out⟩
  · have d1 : decide (a < c) = false := decide_eq_false h1
    rw [d1]
    by_cases h2 : a = c
    · subst h2
      rw [decide_eq_true (rfl : a = a)]
      obtain ⟨t, ht⟩ : ∃ t, decide (b < d) = t := ⟨_, rfl⟩
      rw [ht]
      go_enter Tryz.func60, Tryz.ntmps60
      go_wp2
      go_ret
      exact ⟨rfl, HB.out⟩
    · have d2 : (a == c) = false := beq_eq_false_iff_ne.2 h2
      rw [decide_eq_false h2]
      go_enter Tryz.func60, Tryz.ntmps60
      go_wp2
      go_ret
      exact ⟨rfl, HB.out⟩
end Go.Proofs.YtgnnblkpjankgaaGreatDoor
namespace Go.Proofs.YtgnnblkpjankgaaGreatDoor
open Go.RowKit Go.Lib
set_option linter.unusedVariables false
set_option linter.unusedSimpArgs false
/-! ### what is reached -/
theorem reach_ind {L : List Aw} {a : Rf} (C : Rf → Prop) (h0 : C a) (h1 : ∀ u, C u → ∀ v ∈ nxt L u, C v) : ∀ v ∈ reachL L a, C v := fun v hv =>
  bfs_sub (C := C) h1 _ _ _ (fun x hx => by rw [List.mem_singleton] at hx; rw [hx]; exact h0) v (srt_mem.1 hv)
theorem reach_in {L : List Aw} {a : Rf} : ∀ v ∈ reachL L a, v ∈ a :: allRefs L :=
  reach_ind _ (by simp) (fun u _ v hv => List.mem_cons_of_mem _ (nxt_mem L u v hv))
theorem reach_len {L : List Aw} (h : chkL L = 0) (a : Rf) : (reachL L a).length ≤ 2401 := by
  have h1 := nodup_le _ _ (reach_nodup L a) reach_in
  have h2 := allRefs_len L (chkL_pts h)
  have h3 := chkL_few h
  rw [List.length_cons] at h1
  omega
theorem reach_fit {L : List Aw} (h : chkL L = 0) {a : Rf} (ha : a.length ≤ maxLen) : ∀ v ∈ reachL L a, v.length ≤ maxLen := fun v hv => by
  rcases List.mem_cons.1 (reach_in v hv) with rfl | h1
  · exact ha
  · exact chkL_fit h v h1
theorem reach_nxt {L : List Aw} {a : Rf} : ∀ u ∈ reachL L a, ∀ v ∈ nxt L u, v ∈ reachL L a := fun u hu v hv => by
  unfold nxt at hv
  rw [List.mem_map] at hv
  obtain ⟨h, hh, rfl⟩ := hv
  exact reach_closed L a u hu h hh
/-- how many references are not done -/
def undone (dn : Rf → Option Lb) : List Rf → Nat
  | [] => 0
  | a :: l => (if dn a = none then 1 else 0) + undone dn l
theorem undone_same {dn dn' : Rf → Option Lb} : ∀ {l : List Rf}, (∀ x ∈ l, dn' x = dn x) → undone dn' l = undone dn l
  | [], _ => rfl
  | a :: l, h => by
    show (if dn' a = none then 1 else 0) + undone dn' l = (if dn a = none then 1 else 0) + undone dn l
    rw [h a (by simp), undone_same (fun x hx => h x (List.mem_cons_of_mem _ hx))]
theorem undone_take {dn : Rf → Option Lb} {x : Rf} {b : Lb} (h0 : dn x = none) : ∀ {l : List Rf}, l.Nodup → x ∈ l → undone (setF dn x (some b)) l + 1 = undone dn l
  | [], _, h => by cases h
  | a :: l, hn, hx => by
    have e : ∀ d, undone d (a :: l) = (if d a = none then 1 else 0) + undone d l := fun _ => rfl
    rw [List.nodup_cons] at hn
    rw [e, e]
    rcases List.mem_cons.1 hx with rfl | hx
    · have h1 : undone (setF dn x (some b)) l = undone dn l := undone_same (fun y hy => setF_other _ _ (fun e => hn.1 (e ▸ hy)))
      rw [setF_same, h0, h1, if_neg (fun h => by cases h), if_pos rfl]
      omega
    · have hne : a ≠ x := fun e => hn.1 (e ▸ hx)
      have ih := undone_take (b := b) h0 hn.2 hx
      rw [setF_other _ _ hne]
      omega
theorem undone_all (l : List Rf) : undone (fun _ => none) l = l.length := by
  induction l with
  | nil => rfl
  | cons a l ih =>
    show (if (none : Option Lb) = none then 1 else 0) + undone (fun _ => none) l = _
    rw [ih, if_pos rfl, List.length_cons]; omega
/-- what the search hands back -/
def labM (R : List Rf) (f : Rf → Lb) : Rf → Option Lb := fun x => if x ∈ R then some (f x) else none
structure LeastOf (L : List Aw) (F : List Fx) (a : Rf) (f : Rf → Lb) : Prop where
  opt : Opt (nxt L) (wtF F) a (fun v => v ∈ reachL L a) f
  bd : ∀ v ∈ reachL L a, 0 ≤ (f v).1 ∧ (f v).1 ≤ 155584800000 ∧ 0 ≤ (f v).2 ∧ (f v).2 ≤ 2401
def LabPost (L : List Aw) (F : List Fx) (a : Rf) (w : World) (e : Ending) (w' : World) : Prop :=
  ∃ b n f, e = .returned (.map (some b)) ∧ MapF elmL w' b n (lm (labM (reachL L a) f)) ∧ LeastOf L F a f ∧ Below w.heap.size w w' ∧ w.heap.size ≤ b
theorem srch_end {L : List Aw} {F : List Fx} {a : Rf} {c : Nat} {dn op : Rf → Option Lb} (h : Srch (nxt L) (wtF F) a (fun v => v ∈ reachL L a) 64800000 (fun u v => v ∈ nxt L u) (c : Int) dn op) (h0 : ∀ v, op v = none) (hc : c ≤ 2401) :
    LeastOf L F a (fun v => (dn v).getD (0, 0)) ∧ dn = labM (reachL L a) (fun v => (dn v).getD (0, 0)) := by
  obtain ⟨h1, h2⟩ := h.opt h0 (fun C hs hC v hv => reach_ind C hs hC v hv)
  refine ⟨⟨h2, fun v hv => ?_⟩, ?_⟩
  · obtain ⟨b, hb⟩ := h1 v hv
    obtain ⟨b1, b2, b3, b4⟩ := h.bd v b (lab_dn hb)
    rw [hb]
    simp only [Option.getD_some]
    have h5 : b.2 * 64800000 ≤ 2401 * 64800000 := Int.mul_le_mul_of_nonneg_right (by omega) (by decide)
    omega
  · funext v
    unfold labM
    by_cases hv : v ∈ reachL L a
    · rw [if_pos hv]
      obtain ⟨b, hb⟩ := h1 v hv
      show dn v = some ((dn v).getD (0, 0))
      rw [hb]; rfl
    · rw [if_neg hv]
      cases hd : dn v with
      | none => rfl
      | some b => exact absurd (h.inR v b (lab_dn hd)) hv
theorem grw_below {w w' : World} (hb : Below w.heap.size w w') (row : Option Nat) : w.grownBy w' row := ⟨hb.os, hb.tape, hb.output, hb.size, fun i hi _ => hb.block i hi⟩
theorem below_grw {w w' : World} (hg : w.grownBy w' none) : Below w.heap.size w w' := (Below.refl _ _).grown hg (Nat.le_refl _) (fun k hk => by cases hk)
theorem s4_below {b1 b2 : Nat} {y0 y1 y2 y3 : Option Value} {T wa : World} (hb : Below T.heap.size T wa) (h1 : b1 < T.heap.size) (h2 : b2 < T.heap.size)
    (h : T.cell? ⟨b1, 1, none⟩ = y0 ∧ T.cell? ⟨b2, 0, none⟩ = y1 ∧ T.cell? ⟨b2, 1, none⟩ = y2 ∧ T.cell? ⟨b2, 2, none⟩ = y3) :
    wa.cell? ⟨b1, 1, none⟩ = y0 ∧ wa.cell? ⟨b2, 0, none⟩ = y1 ∧ wa.cell? ⟨b2, 1, none⟩ = y2 ∧ wa.cell? ⟨b2, 2, none⟩ = y3 :=
  ⟨(hb.cell (p := ⟨b1, 1, none⟩) h1).trans h.1, (hb.cell (p := ⟨b2, 0, none⟩) h2).trans h.2.1, (hb.cell (p := ⟨b2, 1, none⟩) h2).trans h.2.2.1, (hb.cell (p := ⟨b2, 2, none⟩) h2).trans h.2.2.2⟩
theorem s4_set3 {q b1 b2 : Nat} {y0 y1 y2 y3 : Option Value} {a b c : Value} {T : World} (h1 : b1 < q) (h2 : b2 < q)
    (h : T.cell? ⟨b1, 1, none⟩ = y0 ∧ T.cell? ⟨b2, 0, none⟩ = y1 ∧ T.cell? ⟨b2, 1, none⟩ = y2 ∧ T.cell? ⟨b2, 2, none⟩ = y3) :
    (((T.setCell ⟨q, 0, none⟩ a).setCell ⟨q, 1, none⟩ b).setCell ⟨q, 2, none⟩ c).cell? ⟨b1, 1, none⟩ = y0 ∧ (((T.setCell ⟨q, 0, none⟩ a).setCell ⟨q, 1, none⟩ b).setCell ⟨q, 2, none⟩ c).cell? ⟨b2, 0, none⟩ = y1 ∧
    (((T.setCell ⟨q, 0, none⟩ a).setCell ⟨q, 1, none⟩ b).setCell ⟨q, 2, none⟩ c).cell? ⟨b2, 1, none⟩ = y2 ∧ (((T.setCell ⟨q, 0, none⟩ a).setCell ⟨q, 1, none⟩ b).setCell ⟨q, 2, none⟩ c).cell? ⟨b2, 2, none⟩ = y3 := by
  have k : ∀ x j, x < q → (((T.setCell ⟨q, 0, none⟩ a).setCell ⟨q, 1, none⟩ b).setCell ⟨q, 2, none⟩ c).cell? ⟨x, j, none⟩ = T.cell? ⟨x, j, none⟩ := fun x j hx => by
    have n : ∀ i, (⟨q, i, none⟩ : Addr) ≠ ⟨x, j, none⟩ := fun i e => by injection e with e _; omega
    rw [World.cell?_setCell_other _ _ _ _ (n 2), World.cell?_setCell_other _ _ _ _ (n 1), World.cell?_setCell_other _ _ _ _ (n 0)]
  exact ⟨(k _ _ h1).trans h.1, (k _ _ h2).trans h.2.1, (k _ _ h2).trans h.2.2.1, (k _ _ h2).trans h.2.2.2⟩
/-- a label's box -/
structure LbB (b : Nat) (s : Rf) (l1 l2 : Int) (w : World) : Prop where
  c0 : w.cell? ⟨b, 0, none⟩ = some (.string (sb s))
  c1 : w.cell? ⟨b, 1, none⟩ = some (.int .i64 l1)
  c2 : w.cell? ⟨b, 2, none⟩ = some (.int .i64 l2)
  f0 : w.frozen? ⟨b, 0, none⟩ = false
  f1 : w.frozen? ⟨b, 1, none⟩ = false
  f2 : w.frozen? ⟨b, 2, none⟩ = false
  lt : b < w.heap.size
theorem LbB.grw {b : Nat} {s : Rf} {l1 l2 : Int} {w w' : World} (h : LbB b s l1 l2 w) {row : Option Nat} (hg : w.grownBy w' row) (hr : some b ≠ row) : LbB b s l1 l2 w' :=
  ⟨(hg.cell_far ⟨b, 0, none⟩ h.lt hr).trans h.c0, (hg.cell_far ⟨b, 1, none⟩ h.lt hr).trans h.c1, (hg.cell_far ⟨b, 2, none⟩ h.lt hr).trans h.c2, (hg.frozen_far ⟨b, 0, none⟩ h.lt hr).trans h.f0, (hg.frozen_far ⟨b, 1, none⟩ h.lt hr).trans h.f1, (hg.frozen_far ⟨b, 2, none⟩ h.lt hr).trans h.f2, Nat.lt_of_lt_of_le h.lt hg.size⟩
theorem LbB.below {b : Nat} {s : Rf} {l1 l2 : Int} {w w' : World} (h : LbB b s l1 l2 w) (hb : Below w.heap.size w w') : LbB b s l1 l2 w' := h.grw (grw_below hb none) (by simp)
theorem LbB.new (w : World) (s : Rf) (l1 l2 : Int) (t : TypeId) : LbB w.heap.size s l1 l2 (w.alloc (.cells #[.string (sb s), .int .i64 l1, .int .i64 l2] t)) := by
  refine ⟨?_, ?_, ?_, ?_, ?_, ?_, by simp⟩ <;> simp [go_sem]
/-- a label is laid into a box -/
theorem LbB.put {b : Nat} {s x : Rf} {l1 l2 m1 m2 : Int} {w : World} (h : LbB b s l1 l2 w) :
    LbB b x m1 m2 (((w.setCell ⟨b, 0, none⟩ (.string (sb x))).setCell ⟨b, 1, none⟩ (.int .i64 m1)).setCell ⟨b, 2, none⟩ (.int .i64 m2)) ∧
    w.grownBy (((w.setCell ⟨b, 0, none⟩ (.string (sb x))).setCell ⟨b, 1, none⟩ (.int .i64 m1)).setCell ⟨b, 2, none⟩ (.int .i64 m2)) (some b) := by
  have hs : ∀ (W : World) (j : Nat) (u : Value), (W.setCell ⟨b, j, none⟩ u).heap.size = W.heap.size := fun W j u => World.size_setCell _ _ _
  have n1 : ∀ {j k : Nat}, j ≠ k → (⟨b, j, none⟩ : Addr) ≠ ⟨b, k, none⟩ := fun hjk e => by injection e with _ e; exact hjk e
  have k1 : (w.setCell ⟨b, 0, none⟩ (.string (sb x))).cell? ⟨b, 1, none⟩ = some (.int .i64 l1) := (World.cell?_setCell_other _ _ _ _ (n1 (by decide))).trans h.c1
  have k2 : ((w.setCell ⟨b, 0, none⟩ (.string (sb x))).setCell ⟨b, 1, none⟩ (.int .i64 m1)).cell? ⟨b, 2, none⟩ = some (.int .i64 l2) :=
    (World.cell?_setCell_other _ _ _ _ (n1 (by decide))).trans ((World.cell?_setCell_other _ _ _ _ (n1 (by decide))).trans h.c2)
  refine ⟨⟨?_, ?_, ?_, ?_, ?_, ?_, ?_⟩, ?_⟩
  · rw [World.cell?_setCell_other _ _ _ _ (n1 (by decide)), World.cell?_setCell_other _ _ _ _ (n1 (by decide))]
    exact World.cell?_setCell_same _ _ _ h.c0
  · rw [World.cell?_setCell_other _ _ _ _ (n1 (by decide))]
    exact World.cell?_setCell_same _ _ _ k1
  · exact World.cell?_setCell_same _ _ _ k2
  · rw [World.frozen?_setCell, World.frozen?_setCell, World.frozen?_setCell]; exact h.f0
  · rw [World.frozen?_setCell, World.frozen?_setCell, World.frozen?_setCell]; exact h.f1
  · rw [World.frozen?_setCell, World.frozen?_setCell, World.frozen?_setCell]; exact h.f2
  · rw [hs, hs, hs]; exact h.lt
  · have hb : Below b w (((w.setCell ⟨b, 0, none⟩ (.string (sb x))).setCell ⟨b, 1, none⟩ (.int .i64 m1)).setCell ⟨b, 2, none⟩ (.int .i64 m2)) :=
      (((Below.refl b w).setCell (Nat.le_refl _) _).setCell (Nat.le_refl _) _).setCell (Nat.le_refl _) _
    refine ⟨hb.os, hb.tape, hb.output, by rw [hs, hs, hs]; exact Nat.le_refl _, fun i _ hne => ?_⟩
    have hi : i ≠ b := fun e => hne (by rw [e])
    rw [heap_setCell_other _ ⟨b, 2, none⟩ i _ hi, heap_setCell_other _ ⟨b, 1, none⟩ i _ hi, heap_setCell_other _ ⟨b, 0, none⟩ i _ hi]
set_option maxRecDepth 100000 in
set_option maxHeartbeats 8000000 in
theorem labels_any (v mv : Value) (L : List Aw) (F : List Fx) (a : ByteArray) (w : World) (h : AwsR w v L) (hm : AtlR w F mv) (hc : chkL L = 0) (ha : a.size ≤ maxLen) :
    Calls Tryz.prog 30 #[v, mv, .string a] w (LabPost L F (bl a) w) := by
  have hmm := @run_makeMap Tryz.prog
  have H := Lib.hid h
  have HA := Lib.hid hm
  have HC := Lib.hid hc
  obtain ⟨R, hR⟩ : ∃ R, reachL L (bl a) = R := ⟨_, rfl⟩
  have HR := Lib.hid hR
  have HRS : Hid (bl a ∈ R) := by rw [← hR]; exact reach_self L (bl a)
  have HRN : Hid R.Nodup := by rw [← hR]; exact reach_nodup L (bl a)
  have HRX : Hid (∀ u ∈ R, ∀ v ∈ nxt L u, v ∈ R) := by rw [← hR]; exact reach_nxt
  have HRF : Hid (∀ v ∈ R, v.length ≤ maxLen) := by rw [← hR]; exact reach_fit hc ha
  have HRL : Hid (R.length ≤ 2401) := by rw [← hR]; exact reach_len hc (bl a)
  have HWB : Hid (∀ u v, 0 ≤ wtF F u v ∧ wtF F u v ≤ 64800000) := wtF_bd F
  have M0 : MapF elmL ((w.alloc (.map #[] 0)).alloc (.map #[] 0)) (w.heap.size + 1) 0 (fun _ => none) := by
    have := MapF.made elmL (w.alloc (.map #[] 0))
    rw [World.size_alloc] at this
    exact this
  have D0 : Hid (MapF elmL ((w.alloc (.map #[] 0)).alloc (.map #[] 0)) w.heap.size 0 (fun _ => none)) := (MapF.made elmL w).alloc _
  have B0 : Hid (Below w.heap.size w ((w.alloc (.map #[] 0)).alloc (.map #[] 0))) := ((Below.refl _ _).alloc (Nat.le_refl _) _).alloc (by simp) _
  clear h hm hc hR
  go_enter Tryz.func30, Tryz.ntmps30
  go_wp2_with (refine wpList_insertF (e := elmL) _ rfl _ _ _ _ rfl 59 Tryz.underlying88 (w.heap.size + 1) 0 (fun _ => none) rfl M0 (by unfold maxLen; omega) a (bl a, (0, 0)) rfl (by show _ = lbV (bl a, (0, 0)); unfold lbV; rw [sb_bl]; rfl) ha ?_)
  intro w1 m1 g1
  have HO1 : Hid (MapF elmL w1 (w.heap.size + 1) (121 * 0 + 1) (lm (setF (fun _ => none) (bl a) (some (0, 0))))) := by
    have := lm_put (fun _ => none) (bl a) (0, 0)
    rw [← this]
    exact m1
  have HD1 : Hid (MapF elmL w1 w.heap.size 0 (lm (fun _ => none))) := D0.out.kept g1 (fun e => by injection e with e; omega)
  have HB1 : Hid (Below w.heap.size w w1) := B0.out.grown g1 (by simp; omega) (fun j hj => by injection hj with hj; omega)
  clear m1 g1 M0 D0 B0
  go_wp2_with fail
  go_loopg [9] (R.length + 1) (fun g u9 wr => ∃ (dn op : Rf → Option Lb) (c : Nat), Hid (Srch (nxt L) (wtF F) (bl a) (fun v => v ∈ R) 64800000 (fun u v => v ∈ nxt L u) (c : Int) dn op) ∧ Hid (MapF elmL wr w.heap.size c (lm dn)) ∧ Hid (MapF elmL wr (w.heap.size + 1) (121 * c + 1) (lm op)) ∧ c + undone dn R = R.length ∧ undone dn R ≤ g ∧ Hid (Below w.heap.size w wr))
  case atStart => exact ⟨_, _, 0, Lib.hid (Srch.start HRS.out 64800000 _), HD1, HO1, by rw [undone_all]; omega, by rw [undone_all]; omega, HB1⟩
  case round =>
    clear HD1 HO1 HB1
    obtain ⟨dn, op, c, hsr, hmd, hmo, hcu, hug, hbr⟩ := hrel
    have hcl := HRL.out
    obtain ⟨rl, hrl⟩ : ∃ n, R.length = n := ⟨_, rfl⟩
    rw [hrl] at hcu hcl
    go_wp2_with (at_len; refine wpList_lenL rfl _ rfl _ _ _ rfl hmo.out ?_)
    intro k hk0 hk1
    by_cases hk : k = 0
    · subst hk
      have hno := hk0.out rfl
      obtain ⟨h1, h2⟩ := srch_end (a := bl a) (by rw [HR.out]; exact hsr.out) hno (by omega)
      have HF : Hid (LabPost L F (bl a) w (.returned (.map (some w.heap.size))) wr) := ⟨_, _, _, rfl, by rw [← h2]; exact hmd.out, h1, hbr.out, Nat.le_refl _⟩
      clear hno h1 h2 hsr hmd hmo hbr hk0 hk1
      go_wp2
      go_ret
      exact HF.out
    · have hkp : (0 : Int) < (k : Int) := by omega
      have HNE := Lib.hid (hk1.out (by omega))
      clear hk hk0 hk1
      obtain ⟨w2, rfl⟩ : ∃ w2, w2 = wr := ⟨_, rfl⟩
      have hbo : w.heap.size + 1 < w2.heap.size := hmo.out.lt
      have HX := Lib.hid (LbB.new w2 [] 0 0 59)
      have MX := hmo.out.alloc (.cells #[.string (sb []), .int .i64 0, .int .i64 0] 59)
      have DX := Lib.hid (hmd.out.alloc (.cells #[.string (sb []), .int .i64 0, .int .i64 0] 59))
      have BX := Lib.hid (hbr.out.alloc hbr.out.size (.cells #[.string (sb []), .int .i64 0, .int .i64 0] 59))
      clear hmo hmd hbr
      go_wp2_with (at_range; refine wpList_rangeL rfl _ rfl _ _ _ rfl MX ?_)
      intro w4 cnt hrg hg4 hs4
      have HX4 := Lib.hid (HX.out.below (below_grw hg4.out))
      have HD4 := Lib.hid (DX.out.below' (below_grw hg4.out))
      have HB4 := Lib.hid (Below.then_ BX.out (below_grw hg4.out))
      clear MX DX BX HX hg4 hs4
      go_wp2_with fail
      go_loopg [10] cnt (fun g u10 wr => ∃ (fb : Bool) (s : Rf) (l1 l2 : Int) (lf : Rf → Bool) (cn : Nat), u10 = .bool fb ∧ cn ≤ g ∧ Hid (RngF elmL wr (w.heap.size + 1) (w2.heap.size + 1) (121 * c + 1) (lm op) lf cn) ∧ Hid (LbB w2.heap.size s l1 l2 wr) ∧ Hid (MapF elmL wr w.heap.size c (lm dn)) ∧ Hid (Below w.heap.size w wr) ∧ Hid (fb = true → ∀ x, lf x = (op x).isSome) ∧ Hid (fb = false → op s = some (l1, l2) ∧ ∀ x b, op x = some b → lf x = false → ¬ lx b (l1, l2)))
      case atStart => exact ⟨true, [], 0, 0, _, cnt, rfl, Nat.le_refl _, hrg, HX4, HD4, HB4, Lib.hid (fun _ x => rfl), Lib.hid (fun h => by cases h)⟩
      case round =>
        clear hrg HX4 HD4 HB4
        obtain ⟨fb, s, l1, l2, lf, cn, rfl, hcn, hrg, hbx, hmd, hbr, hf1, hf2⟩ := hrel
        go_wp2_with (at_next; refine wpList_nextL rfl _ rfl _ _ _ _ _ _ rfl hrg.out ?_ ?_)
        · intro hdone
          cases fb
          case true =>
            exfalso
            obtain ⟨z, hz⟩ := HNE.out
            have h1 := hf1.out rfl z
            rw [hdone.out z] at h1
            cases ho : op z with
            | none => exact hz ho
            | some b => rw [ho] at h1; cases h1
          case false =>
            obtain ⟨hops, hmin0⟩ := hf2.out rfl
            have hmin : ∀ z b, op z = some b → ¬ lx b (l1, l2) := fun z b hz => hmin0 z b hz (hdone.out z)
            obtain ⟨hT, hl2, hdns⟩ := hsr.out.take hops hmin
            have HT := Lib.hid hT.seen0
            have hsR : s ∈ R := hsr.out.inR s (l1, l2) (by rw [lab_op hdns]; exact hops)
            have HMAX : Hid (∀ u b, (setF dn s (some (l1, l2))) u = some b → ¬ lx (l1, l2) b) := fun u b hu => by
              by_cases e : u = s
              · rw [e, setF_same, Option.some.injEq] at hu; rw [← hu]; exact lx_irrefl _
              · rw [setF_other _ _ e] at hu; exact hsr.out.low u s b (l1, l2) hu hops
            have hund := undone_take (b := (l1, l2)) hdns HRN.out hsR
            have hbd := hT.bd s (l1, l2) (lab_dn (setF_same _ _ _))
            have hfs := HRF.out s hsR
            have HSR := Lib.hid hsR
            have HMO := Lib.hid hrg.out.map
            obtain ⟨x0, x1, x2, xf0, xf1, xf2, xlt⟩ := hbx.out
            clear hops hmin0 hmin hT hdns hsr hsR hrg hf1 hf2 hdone HNE
            go_wp2_with (at_delete; refine wpList_delL rfl _ _ rfl _ _ _ rfl HMO.out s rfl hfs ?_)
            intro w7 hmo7 hg7
            have HX7 := Lib.hid (hbx.out.grw hg7.out (by simp; omega))
            have HD7 := Lib.hid (hmd.out.kept hg7.out (by simp))
            have HB7 : Hid (Below w.heap.size w w7) := hbr.out.grown hg7.out (by omega) (fun j hj => by injection hj with hj; omega)
            clear x0 x1 x2 xf0 xf1 xf2 xlt hg7 hbx hmd hbr HMO
            obtain ⟨x0, x1, x2, xf0, xf1, xf2, xlt⟩ := HX7.out
            go_wp2_with (at_mapUpdate; refine wpList_putL rfl _ _ _ rfl _ _ _ rfl HD7.out (by unfold maxLen; omega) s l1 l2 rfl rfl hfs ?_)
            intro w8 hmd8 hg8
            have HX8 := Lib.hid (HX7.out.grw hg8.out (by simp; omega))
            have HO8 := Lib.hid (hmo7.out.kept hg8.out (by simp))
            have HB8 : Hid (Below w.heap.size w w8) := HB7.out.grown hg8.out (by omega) (fun j hj => by injection hj with hj; omega)
            clear x0 x1 x2 xf0 xf1 xf2 xlt hg8 HX7 hmo7 HB7 HD7
            obtain ⟨x0, x1, x2, xf0, xf1, xf2, xlt⟩ := HX8.out
            go_wp2_with fail
            refine (hops_index_any v L (sb s) _ (H.out.below HB8.out) (chkL_few HC.out)).mono ?_
            rintro e w9 ⟨vh, rfl, hvh, hb9⟩
            rw [bl_sb] at hvh
            have HX9 := Lib.hid (HX8.out.below hb9)
            have HO9 := Lib.hid (HO8.out.below' hb9)
            have HD9 := Lib.hid (hmd8.out.below' hb9)
            have HB9 := Lib.hid (Below.then_ HB8.out hb9)
            have hhl := hopsL_len L s
            have hc60 := chkL_few HC.out
            have HNL : Hid (nxt L s = (hopsL L s).map (·.dst)) := rfl
            obtain ⟨hl, hhe⟩ : ∃ hl, hopsL L s = hl := ⟨_, rfl⟩
            rw [hhe] at hvh hhl HNL
            clear hhe hb9 x0 x1 x2 xf0 xf1 xf2 xlt HX8 HO8 hmd8 HB8
            obtain ⟨m, hm⟩ : ∃ m, hl.length = m := ⟨_, rfl⟩
            have HM := Lib.hid hm
            obtain ⟨Ah, ch, rfl, hc1, hc2⟩ := hvh.form
            have HV := Lib.hid hvh
            rw [hm] at hhl HV hc1 ⊢
            clear hm hvh
            unfold maxLen at hc2
            have hb9o : w.heap.size + 1 < w9.heap.size := HO9.out.lt
            have HNC : Hid (∀ cur z, w9.heap[w.heap.size + 1]? ≠ some (.cells cur 48 z)) := fun cur z hh => by
              obtain ⟨D, ⟨es, clock, hbk, _⟩, _⟩ := HO9.out
              rw [hbk] at hh; cases hh
            have hbb : w2.heap.size < w9.heap.size := HX9.out.lt
            go_wp2_with fail
            go_loopg [75] m (fun g iv wr => ∃ (j : Nat) (op' : Rf → Option Lb), iv = .int .i64 j ∧ j ≤ m ∧ m - j ≤ g ∧ Hid (Srch (nxt L) (wtF F) (bl a) (fun v => v ∈ R) 64800000 (Seen (nxt L) s ((nxt L s).take j)) ((c : Int) + 1) (setF dn s (some (l1, l2))) op') ∧ Hid (MapF elmL wr (w.heap.size + 1) (121 * c + 1 + j) (lm op')) ∧ Hid (w9.grownBy wr (some (w.heap.size + 1))))
            case atStart => exact ⟨0, _, by first | rfl | go_num, Nat.zero_le _, by omega, by rw [List.take_zero]; exact HT, HO9, Lib.hid (World.grownBy.refl _ _)⟩
            case round =>
              clear HO9 HT
              obtain ⟨j, op', rfl, hj, hgj, hsr, hmo, hgw⟩ := hrel
              have HXr := Lib.hid (HX9.out.grw hgw.out (by simp; omega))
              have HDr := Lib.hid (HD9.out.kept hgw.out (by simp))
              have HBr : Hid (Below w.heap.size w wr) := HB9.out.grown hgw.out (by omega) (fun j hj => by injection hj with hj; omega)
              by_cases hlj : j < m
              · have hjl : j < hl.length := by rw [HM.out]; exact hlj
                have HVr := HV.out.grown hgw.out (fun k cur z hk hh => by
                  injection hk with hk
                  subst hk
                  exact HNC.out cur z hh)
                obtain ⟨gh, oh, ch', hA, hgh, x0, x1, x2, x3⟩ := HVr.at_ hjl
                rw [HM.out] at hA
                simp only [Value.slice.injEq, true_and] at hA
                obtain ⟨rfl, rfl⟩ := hA
                have hmem : hl[j].dst ∈ nxt L s := by rw [HNL.out]; exact List.mem_map.2 ⟨_, List.getElem_mem hjl, rfl⟩
                have HTK : Hid ((nxt L s).take (j + 1) = (nxt L s).take j ++ [hl[j].dst]) := by
                  unfold Hid; rw [HNL.out, List.take_succ_eq_append_getElem (by rw [List.length_map]; exact hjl), List.getElem_map]
                obtain ⟨p, hp⟩ : ∃ p, hl[j] = p := ⟨_, rfl⟩
                rw [hp] at x0 x1 x2 x3 hmem HTK
                have HDM := Lib.hid hmem
                have HDR := Lib.hid (HRX.out s HSR.out p.dst hmem)
                have hfd := HRF.out p.dst HDR.out
                have hji : (j : Int) < (m : Int) := by omega
                obtain ⟨w10, hw10⟩ : ∃ W, wr.alloc (.cells #[.string (sb p.aw), .string (sb p.dst), .int .i64 p.lo, .int .i64 p.hi] 48) = W := ⟨_, rfl⟩
                have B10 : Hid (Below wr.heap.size wr w10) := by rw [← hw10]; exact (Below.refl _ _).alloc (Nat.le_refl _) _
                have C10 : Hid (w10.cell? ⟨wr.heap.size, 0, none⟩ = some (.string (sb p.aw)) ∧ w10.cell? ⟨wr.heap.size, 1, none⟩ = some (.string (sb p.dst)) ∧ w10.cell? ⟨wr.heap.size, 2, none⟩ = some (.int .i64 p.lo) ∧ w10.cell? ⟨wr.heap.size, 3, none⟩ = some (.int .i64 p.hi) ∧ wr.heap.size < w10.heap.size) := by rw [← hw10]; unfold Hid; simp [go_sem]
                have X10 := Lib.hid (HXr.out.below B10.out)
                have D10 := Lib.hid (HDr.out.below' B10.out)
                have O10 := Lib.hid (hmo.out.below' B10.out)
                have G10 := Lib.hid (hgw.out.trans (grw_below B10.out (some (w.heap.size + 1))))
                clear hp hjl HVr hmem hmo hgw HXr HDr hgh
                obtain ⟨z0, z1, z2, z3, zlt⟩ := C10.out
                go_wp2_with (at_lookup; refine wpList_lookL rfl _ _ rfl _ _ _ rfl D10.out p.dst rfl hfd ?_ ?_)
                · intro hno
                  have HNO := Lib.hid hno
                  obtain ⟨w11, hw11⟩ : ∃ W, w10.alloc (.cells #[.string ⟨#[]⟩, .int .i64 0, .int .i64 0] 59) = W := ⟨_, rfl⟩
                  have B11 : Hid (Below w10.heap.size w10 w11) := by rw [← hw11]; exact (Below.refl _ _).alloc (Nat.le_refl _) _
                  have X11 := Lib.hid (X10.out.below B11.out)
                  have D11 := Lib.hid (D10.out.below' B11.out)
                  have O11 := Lib.hid (O10.out.below' B11.out)
                  have G11 := Lib.hid (G10.out.trans (grw_below B11.out (some (w.heap.size + 1))))
                  have BW11 : Hid (Below w.heap.size w w11) := Below.then_ HBr.out (Below.then_ B10.out B11.out)
                  have d1 : w11.cell? ⟨wr.heap.size, 1, none⟩ = some (.string (sb p.dst)) := (B11.out.cell (p := ⟨wr.heap.size, 1, none⟩) zlt).trans z1
                  have dlt : wr.heap.size < w11.heap.size := Nat.lt_of_lt_of_le zlt B11.out.size
                  have HA11 := Lib.hid (HA.out.below BW11.out)
                  have HW11 := Lib.hid hw11
                  clear z0 z1 z2 z3 zlt C10 hno X10 D10 O10 G10 B10 B11 hw10 hw11
                  obtain ⟨x0, x1, x2, xf0, xf1, xf2, xlt⟩ := X11.out
                  obtain ⟨dd, hdd⟩ : ∃ d, wtF F s p.dst = d := ⟨_, rfl⟩
                  have HDD := Lib.hid hdd
                  have hdb := HWB.out s p.dst
                  rw [hdd] at hdb
                  have ln := fun W (h : AtlR W F mv) => length_any mv F (sb s) (sb p.dst) W h hfs hfd
                  simp only [bl_sb] at ln
                  rw [hdd] at ln
                  have hcm : l2 * 64800000 ≤ 2402 * 64800000 := Int.mul_le_mul_of_nonneg_right (by omega) (by decide)
                  have e1 : IntKind.i64.wrap (l1 + dd) = l1 + dd := IntWalk.i64_in _ (by omega)
                  have e2 : IntKind.i64.wrap (l2 + 1) = l2 + 1 := IntWalk.i64_in _ (by omega)
                  clear hdd
                  go_upto_region 18 with fail
                  rw [HW11.out]
                  clear HW11
                  go_cut [17] from 87 to 101 (fun u wx => ∃ q, u = .pointer (some ⟨q, 0, none⟩) ∧ Hid (LbB q p.dst (l1 + dd) (l2 + 1) wx) ∧ Hid (Below w11.heap.size w11 wx) ∧ w11.heap.size ≤ q)
                  case first =>
                    have s0 : w11.drew.cell? ⟨wr.heap.size, 1, none⟩ = some (.string (sb p.dst)) ∧ w11.drew.cell? ⟨w2.heap.size, 0, none⟩ = some (.string (sb s)) ∧ w11.drew.cell? ⟨w2.heap.size, 1, none⟩ = some (.int .i64 l1) ∧ w11.drew.cell? ⟨w2.heap.size, 2, none⟩ = some (.int .i64 l2) := ⟨d1, x0, x1, x2⟩
                    have s00 : w11.cell? ⟨wr.heap.size, 1, none⟩ = some (.string (sb p.dst)) ∧ w11.cell? ⟨w2.heap.size, 0, none⟩ = some (.string (sb s)) ∧ w11.cell? ⟨w2.heap.size, 1, none⟩ = some (.int .i64 l1) ∧ w11.cell? ⟨w2.heap.size, 2, none⟩ = some (.int .i64 l2) := s0
                    clear d1 x0 x1 x2 xf0 xf1 xf2
                    go_region_held3 (fun wx => wx.cell? ⟨wr.heap.size, 1, none⟩ = some (.string (sb p.dst)) ∧ wx.cell? ⟨w2.heap.size, 0, none⟩ = some (.string (sb s)) ∧ wx.cell? ⟨w2.heap.size, 1, none⟩ = some (.int .i64 l1) ∧ wx.cell? ⟨w2.heap.size, 2, none⟩ = some (.int .i64 l2))
                      (first | with_reducible assumption | go_keep | exact s4_set3 dlt xlt (by assumption))
                      (first
                      | (go_at_call 23; refine (ln _ (by first | exact HA11.out.below (Below.refl _ _).drew | exact HA11.out.below ((Below.refl _ _).alloc (Nat.le_refl _) _).drew)).mono ?_; rintro e wa ⟨rfl, hb⟩; have hbz := Lib.hid hb; have hS := s4_below hb (by first | exact dlt | exact Nat.lt_trans dlt (by simp)) (by first | exact xlt | exact Nat.lt_trans xlt (by simp)) (by first | exact s0 | exact s4_below (((Below.refl _ w11).alloc (Nat.le_refl _) _).drew) dlt xlt s00); (first | (have hz := LbB.below (LbB.below (LbB.new w11 [] 0 0 59) (Below.refl _ _).drew) hb; have hzz := Lib.hid hz; obtain ⟨n0, n1, n2, nf0, nf1, nf2, nlt⟩ := hz) | skip); clear hb)
                      | fail)
                    all_goals go_wp2
                    all_goals go_meet
                    all_goals refine ⟨_, rfl, ?_, ?_, ?_⟩
                    all_goals first
                      | exact LbB.new wa p.dst (l1 + dd) (l2 + 1) _
                      | exact (LbB.put hzz.out).1
                      | exact (Below.then_ (Below.refl _ w11).drew hbz.out).alloc (Below.then_ (Below.refl _ w11).drew hbz.out).size _
                      | exact (((Below.then_ (((Below.refl _ w11).alloc (Nat.le_refl _) _).drew) hbz.out).setCell (Nat.le_refl _) _).setCell (Nat.le_refl _) _).setCell (Nat.le_refl _) _
                      | exact (Below.then_ (Below.refl _ w11).drew hbz.out).size
                      | exact Nat.le_refl _
                  case rest =>
                    obtain ⟨q, rfl, hq, hbq, hqle⟩ := hcut
                    obtain ⟨w12, rfl⟩ : ∃ w12, w12 = wc := ⟨_, rfl⟩
                    have O12 := Lib.hid (O11.out.below' hbq.out)
                    have G12 := Lib.hid (G11.out.trans (grw_below hbq.out (some (w.heap.size + 1))))
                    have BW12 := Lib.hid (Below.then_ BW11.out hbq.out)
                    have hb12 : w.heap.size + 1 < w12.heap.size := O12.out.lt
                    have dd1 : w12.cell? ⟨wr.heap.size, 1, none⟩ = some (.string (sb p.dst)) := (hbq.out.cell (p := ⟨wr.heap.size, 1, none⟩) dlt).trans d1
                    have dlt2 : wr.heap.size < w12.heap.size := Nat.lt_of_lt_of_le dlt hbq.out.size
                    have HQ := Lib.hid hq.out
                    have hqo : w.heap.size + 1 < q := Nat.lt_of_lt_of_le O11.out.lt hqle
                    obtain ⟨q0, q1, q2, qf0, qf1, qf2, qlt⟩ := hq.out
                    have HADD : Hid (ad (l1, l2) (wtF F s p.dst) = (l1 + dd, l2 + 1)) := by unfold Hid; rw [HDD.out]; rfl
                    have HPUT : Hid ((∀ b, op' p.dst = some b → lx (l1 + dd, l2 + 1) b) → Srch (nxt L) (wtF F) (bl a) (fun v => v ∈ R) 64800000 (Seen (nxt L) s ((nxt L s).take (j + 1))) ((c : Int) + 1) (setF dn s (some (l1, l2))) (setF op' p.dst (some (l1 + dd, l2 + 1)))) := fun hlt => by
                      rw [HTK.out, ← HADD.out]
                      exact hsr.out.put HWB.out (setF_same _ _ _) HMAX.out hl2 HDM.out HDR.out HNO.out (fun b hb => by rw [HADD.out]; exact hlt b hb)
                    have HKP : Hid (∀ b, op' p.dst = some b → ¬ lx (l1 + dd, l2 + 1) b → Srch (nxt L) (wtF F) (bl a) (fun v => v ∈ R) 64800000 (Seen (nxt L) s ((nxt L s).take (j + 1))) ((c : Int) + 1) (setF dn s (some (l1, l2))) op') := fun b hb hle => by
                      rw [HTK.out]
                      exact hsr.out.keep (setF_same _ _ _) HNO.out hb (by rw [HADD.out]; exact hle)
                    clear hsr hq hbq x0 x1 x2 xf0 xf1 xf2 xlt O11 G11 d1 dlt BW11 e1 e2 hcm hdb ln
                    go_wp2_with (at_lookup; refine wpList_lookL rfl _ _ rfl _ _ _ rfl O12.out p.dst rfl hfd ?_ ?_)
                    · intro hno
                      have HS := Lib.hid (HPUT.out (fun b hb => by rw [hno] at hb; cases hb))
                      have O13 := O12.out.alloc (.cells #[.string ⟨#[]⟩, .int .i64 0, .int .i64 0] 59)
                      have G13 := Lib.hid (G12.out.trans (World.grownBy_alloc w12 (.cells #[.string ⟨#[]⟩, .int .i64 0, .int .i64 0] 59) (some (w.heap.size + 1))))
                      clear hno HPUT HKP
                      go_wp2_with (at_mapUpdate; refine wpList_putL rfl _ _ _ rfl _ _ _ rfl O13 (by unfold maxLen; omega) p.dst (l1 + dd) (l2 + 1) rfl rfl hfd ?_)
                      intro w14 hmo14 hg14
                      have G14 := Lib.hid (G13.out.trans hg14.out)
                      clear hg14 O13 q0 q1 q2 qf0 qf1 qf2 dd1
                      go_wp2
                      go_roundg (m - (j + 1))
                      case measure => omega
                      case rel => exact ⟨j + 1, _, by go_num, hlj, Nat.le_refl _, HS, hmo14, G14⟩
                    · intro b1 b2 hyes
                      have HY := Lib.hid hyes
                      have B13 : Hid (Below w12.heap.size w12 (w12.alloc (.cells #[.string (sb p.dst), .int .i64 b1, .int .i64 b2] 59))) := (Below.refl _ _).alloc (Nat.le_refl _) _
                      have Q13 := Lib.hid (HQ.out.below B13.out)
                      have D13 : Hid ((w12.alloc (.cells #[.string (sb p.dst), .int .i64 b1, .int .i64 b2] 59)).cell? ⟨wr.heap.size, 1, none⟩ = some (.string (sb p.dst))) := (B13.out.cell (p := ⟨wr.heap.size, 1, none⟩) dlt2).trans dd1
                      clear hyes
                      go_wp2_with fail
                      refine (less_any (p.dst, (l1 + dd, l2 + 1)) (p.dst, (b1, b2)) _).mono ?_
                      rintro e w14 ⟨rfl, hb14⟩
                      have O14 := Lib.hid ((O12.out.below' B13.out).below' hb14)
                      have G14 := Lib.hid ((G12.out.trans (grw_below B13.out (some (w.heap.size + 1)))).trans (grw_below hb14 (some (w.heap.size + 1))))
                      have Q14 := Lib.hid (Q13.out.below hb14)
                      have k1 : w14.cell? ⟨wr.heap.size, 1, none⟩ = some (.string (sb p.dst)) := (hb14.cell (p := ⟨wr.heap.size, 1, none⟩) (by simp; omega)).trans D13.out
                      clear q0 q1 q2 qf0 qf1 qf2 qlt dd1 hb14 D13 Q13 B13
                      obtain ⟨q0, q1, q2, qf0, qf1, qf2, qlt⟩ := Q14.out
                      by_cases hlx : lx (l1 + dd, l2 + 1) (b1, b2)
                      · have HS := Lib.hid (HPUT.out (fun b hb => by rw [HY.out, Option.some.injEq] at hb; rw [← hb]; exact hlx))
                        have hd : decide (lx (l1 + dd, l2 + 1) (b1, b2)) = true := decide_eq_true hlx
                        rw [hd]
                        clear hlx hd HPUT HKP
                        go_wp2_with (at_mapUpdate; refine wpList_putL rfl _ _ _ rfl _ _ _ rfl O14.out (by unfold maxLen; omega) p.dst (l1 + dd) (l2 + 1) rfl rfl hfd ?_)
                        intro w15 hmo15 hg15
                        have G15 := Lib.hid (G14.out.trans hg15.out)
                        clear hg15 q0 q1 q2 qf0 qf1 qf2 k1
                        go_wp2
                        go_roundg (m - (j + 1))
                        case measure => omega
                        case rel => exact ⟨j + 1, _, by go_num, hlj, Nat.le_refl _, HS, hmo15, G15⟩
                      · have HS := Lib.hid (HKP.out _ HY.out hlx)
                        have hd : decide (lx (l1 + dd, l2 + 1) (b1, b2)) = false := decide_eq_false hlx
                        rw [hd]
                        clear hlx hd HPUT HKP
                        go_wp2
                        go_roundg (m - (j + 1))
                        case measure => omega
                        case rel => exact ⟨j + 1, op', by go_num, hlj, Nat.le_refl _, HS, O14.out.mono (by omega), G14⟩
                · intro b1 b2 hyes
                  have B11 : Hid (Below w10.heap.size w10 (w10.alloc (.cells #[.string (sb p.dst), .int .i64 b1, .int .i64 b2] 59))) := (Below.refl _ _).alloc (Nat.le_refl _) _
                  have O11 := Lib.hid (O10.out.below' B11.out)
                  have G11 := Lib.hid (G10.out.trans (grw_below B11.out (some (w.heap.size + 1))))
                  have HSK : Hid (Srch (nxt L) (wtF F) (bl a) (fun v => v ∈ R) 64800000 (Seen (nxt L) s ((nxt L s).take (j + 1))) ((c : Int) + 1) (setF dn s (some (l1, l2))) op') := by
                    unfold Hid
                    rw [HTK.out]
                    exact hsr.out.skip (fun u v => (HWB.out u v).1) (setF_same _ _ _) HMAX.out hyes
                  clear z0 z1 z2 z3 zlt C10 hyes X10 D10 O10 G10 B10 hsr
                  go_wp2
                  go_roundg (m - (j + 1))
                  case measure => omega
                  case rel => exact ⟨j + 1, op', by go_num, hlj, Nat.le_refl _, HSK, O11.out.mono (by omega), G11⟩
              · have hjm : m = j := by omega
                subst hjm
                have HSA : Hid (Srch (nxt L) (wtF F) (bl a) (fun v => v ∈ R) 64800000 (fun u v => v ∈ nxt L u) ((c + 1 : Nat) : Int) (setF dn s (some (l1, l2))) op') := by
                  have h1 := hsr.out
                  rw [List.take_of_length_le (by rw [HNL.out, List.length_map, HM.out]; exact Nat.le_refl _)] at h1
                  have h2 := h1.seenAll
                  have e : ((c + 1 : Nat) : Int) = (c : Int) + 1 := by omega
                  unfold Hid
                  rw [e]; exact h2
                have HMA : Hid (MapF elmL wr (w.heap.size + 1) (121 * (c + 1) + 1) (lm op')) := hmo.out.mono (by omega)
                clear hsr hmo hgw HXr
                go_wp2
                go_roundg (undone (setF dn s (some (l1, l2))) R)
                case measure => omega
                case rel => exact ⟨_, op', c + 1, HSA, HDr, HMA, by omega, Nat.le_refl _, HBr⟩
        · intro x m1 m2 w5 cn2 hxl hlx hmx hen hrg2 hlt hg5 hs5
          have HX5 := Lib.hid (hbx.out.grw hg5.out (by simp))
          have HD5 := Lib.hid (hmd.out.kept hg5.out (by simp; omega))
          have HB5 : Hid (Below w.heap.size w w5) := hbr.out.grown hg5.out (by have := hbx.out.lt; omega) (fun j hj => by injection hj with hj; omega)
          -- the box of the round
          obtain ⟨w6, hw6⟩ : ∃ w6, w5.alloc (.cells #[.string (sb x), .int .i64 m1, .int .i64 m2] 59) = w6 := ⟨_, rfl⟩
          have HB6 : Hid (Below w.heap.size w w6) := by rw [← hw6]; exact HB5.out.alloc HB5.out.size _
          have HBA : Hid (Below w5.heap.size w5 w6) := by rw [← hw6]; exact (Below.refl _ _).alloc (Nat.le_refl _) _
          have HX6 := Lib.hid (HX5.out.below HBA.out)
          have HY6 : Hid (LbB w5.heap.size x m1 m2 w6) := by rw [← hw6]; exact LbB.new w5 x m1 m2 _
          have HR6 := Lib.hid (hrg2.out.below HBA.out hrg2.out.lt.2 hrg2.out.lt.1)
          have HD6 := Lib.hid (HD5.out.below' HBA.out)
          -- the two ways on
          have HTAKE : Hid ((fb = false → lx (m1, m2) (l1, l2) ∨ m1 = l1 ∧ m2 = l2) → ∀ z b, op z = some b → (lf z && !decide (z = x)) = false → ¬ lx b (m1, m2)) := by
            intro hcond z b hz hl
            by_cases hzx : z = x
            · subst hzx
              have := hmx.out
              rw [hz, Option.some.injEq] at this
              rw [this]; exact lx_irrefl _
            · rw [decide_eq_false hzx, Bool.not_false, Bool.and_true] at hl
              cases fb with
              | true => have := hf1.out rfl z; rw [hl, hz] at this; cases this
              | false =>
                have h1 := (hf2.out rfl).2 z b hz hl
                rcases hcond rfl with h2 | ⟨h2, h3⟩
                · exact le_trans' (le_of_lx h2) h1
                · rw [h2, h3]; exact h1
          have HKEEP : Hid (fb = false → ¬ lx (m1, m2) (l1, l2) → op s = some (l1, l2) ∧ ∀ z b, op z = some b → (lf z && !decide (z = x)) = false → ¬ lx b (l1, l2)) := by
            intro hfb hno
            refine ⟨(hf2.out hfb).1, fun z b hz hl => ?_⟩
            by_cases hzx : z = x
            · subst hzx
              have := hmx.out
              rw [hz, Option.some.injEq] at this
              rw [this]; exact hno
            · rw [decide_eq_false hzx, Bool.not_false, Bool.and_true] at hl
              exact (hf2.out hfb).2 z b hz hl
          have HMX := hmx
          clear hlx hmx hrg2 hg5 hs5 hrg hbx hmd hbr hf1 hf2 HX5 HD5 HB5 HBA
          obtain ⟨x0, x1, x2, xf0, xf1, xf2, xlt⟩ := HX6.out
          obtain ⟨y0, y1, y2, yf0, yf1, yf2, ylt⟩ := HY6.out
          cases fb
          · have h5x : w5.heap.size < w6.heap.size := ylt
            go_wp2_with fail
            try rw [hw6]
            refine (less_any (x, (m1, m2)) (s, (l1, l2)) _).mono ?_
            rintro e w7 ⟨rfl, hb7⟩
            have HXW := Lib.hid (HX6.out.below hb7)
            have HYW := Lib.hid (HY6.out.below hb7)
            have HRW := Lib.hid (HR6.out.below hb7 HR6.out.lt.2 HR6.out.lt.1)
            have HDW := Lib.hid (HD6.out.below' hb7)
            have HBW := Lib.hid (Below.then_ HB6.out hb7)
            clear hb7 x0 x1 x2 xf0 xf1 xf2 xlt y0 y1 y2 yf0 yf1 yf2 ylt hen hw6 HX6 HY6 HR6 HD6 HB6
            obtain ⟨x0, x1, x2, xf0, xf1, xf2, xlt⟩ := HXW.out
            obtain ⟨y0, y1, y2, yf0, yf1, yf2, ylt⟩ := HYW.out
            have HP := Lib.hid (HXW.out.put (x := x) (m1 := m1) (m2 := m2))
            have HRP := Lib.hid (HRW.out.kept HP.out.2 (by simp; omega) (by simp))
            have HDP := Lib.hid (HDW.out.kept HP.out.2 (by simp; omega))
            have HBP := Lib.hid (HBW.out.grown HP.out.2 (by have := HXW.out.lt; omega) (fun j hj => by injection hj with hj; omega))
            by_cases hlx : lx (m1, m2) (l1, l2)
            · have hd : decide (lx (m1, m2) (l1, l2)) = true := decide_eq_true hlx
              have HT := Lib.hid (HTAKE.out (fun _ => .inl hlx))
              rw [hd]
              clear hlx hd
              go_wp2
              go_roundg cn2
              case measure => omega
              case rel => exact ⟨false, x, m1, m2, _, cn2, rfl, Nat.le_refl _, HRP, Lib.hid HP.out.1, HDP, HBP, Lib.hid (fun h => by cases h), Lib.hid (fun _ => ⟨HMX.out, HT.out⟩)⟩
            · have hd : decide (lx (m1, m2) (l1, l2)) = false := decide_eq_false hlx
              have HK := Lib.hid (HKEEP.out (by simp) hlx)
              rw [hd]
              clear hd hlx
              by_cases q1 : m1 = l1
              · have e1 : (m1 == l1) = true := beq_iff_eq.2 q1
                by_cases q2 : m2 = l2
                · have e2 : (m2 == l2) = true := beq_iff_eq.2 q2
                  have HT := Lib.hid (HTAKE.out (fun _ => .inr ⟨q1, q2⟩))
                  have hbl := bLess_sb x s
                  clear q1 q2
                  by_cases q3 : x < s
                  · rw [decide_eq_true q3] at hbl
                    clear q3
                    go_wp2
                    go_roundg cn2
                    case measure => omega
                    case rel => exact ⟨false, x, m1, m2, _, cn2, rfl, Nat.le_refl _, HRP, Lib.hid HP.out.1, HDP, HBP, Lib.hid (fun h => by cases h), Lib.hid (fun _ => ⟨HMX.out, HT.out⟩)⟩
                  · rw [decide_eq_false q3] at hbl
                    clear q3
                    go_wp2
                    go_roundg cn2
                    case measure => omega
                    case rel => exact ⟨false, s, l1, l2, _, cn2, rfl, Nat.le_refl _, HRW, HXW, HDW, HBW, Lib.hid (fun h => by cases h), Lib.hid (fun _ => HK.out)⟩
                · have e2 : (m2 == l2) = false := beq_eq_false_iff_ne.2 q2
                  clear q1 q2
                  go_wp2
                  go_roundg cn2
                  case measure => omega
                  case rel => exact ⟨false, s, l1, l2, _, cn2, rfl, Nat.le_refl _, HRW, HXW, HDW, HBW, Lib.hid (fun h => by cases h), Lib.hid (fun _ => HK.out)⟩
              · have e1 : (m1 == l1) = false := beq_eq_false_iff_ne.2 q1
                clear q1
                go_wp2
                go_roundg cn2
                case measure => omega
                case rel => exact ⟨false, s, l1, l2, _, cn2, rfl, Nat.le_refl _, HRW, HXW, HDW, HBW, Lib.hid (fun h => by cases h), Lib.hid (fun _ => HK.out)⟩
          · have HT := Lib.hid (HTAKE.out (fun h => by cases h))
            have HP := Lib.hid (HX6.out.put (x := x) (m1 := m1) (m2 := m2))
            have HRP := Lib.hid (HR6.out.kept HP.out.2 (by simp; omega) (by simp))
            have HDP := Lib.hid (HD6.out.kept HP.out.2 (by simp; omega))
            have HBP := Lib.hid (HB6.out.grown HP.out.2 (by have := HX6.out.lt; omega) (fun j hj => by injection hj with hj; omega))
            go_wp2
            try rw [hw6]
            clear hw6
            try go_wp2
            go_roundg cn2
            case measure => omega
            case rel => exact ⟨false, x, m1, m2, _, cn2, rfl, Nat.le_refl _, HRP, Lib.hid HP.out.1, HDP, HBP, Lib.hid (fun h => by cases h), Lib.hid (fun _ => ⟨HMX.out, HT.out⟩)⟩
end Go.Proofs.YtgnnblkpjankgaaGreatDoor
