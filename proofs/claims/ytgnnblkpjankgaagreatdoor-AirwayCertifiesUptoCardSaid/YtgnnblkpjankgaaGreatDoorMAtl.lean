/-
  Several texts as one.
  Plain words: where references lie, lengths of hops, the errors ahead of a search; maps of positions.
  Contracts: the length of a hop over a map of positions; the map of positions of a search.
  Contracts of the reference: the length of a hop, the errors ahead of a search.
-/
import Derived.Test.YtgnnblkpjankgaaGreatDoorMWay
import Derived.Test.YtgnnblkpjankgaaGreatDoorReachT
import Derived.Test.YtgnnblkpjankgaaGreatDoorFixF
import Derived.Test.YtgnnblkpjankgaaGreatDoorMMap
import Derived.Test.YtgnnblkpjankgaaGreatDoorSphR
import Derived.Deep.RegionHeld3
import Derived.Deep.CutBlock
import Derived.IntWalk
namespace Go.Proofs.YtgnnblkpjankgaaGreatDoor
open Go.RowKit
set_option linter.unusedVariables false
set_option linter.unusedSimpArgs false

/-- the position of the fix with a reference -/
def posO (F : List Fx) (r : Rf) : Option (Int × Int) := (findL F r).map fun f => (f.lat, f.lon)
def posD (F : List Fx) (r : Rf) : Int × Int := (posO F r).getD (0, 0)
theorem posD_find (F : List Fx) (r : Rf) : posD F r = (((findL F r).getD fx0).lat, ((findL F r).getD fx0).lon) := by
  unfold posD posO
  cases findL F r <;> rfl
def vldP (p : Int × Int) : Bool := vldB p.1 p.2
/-- the distance of two positions, 0 where there is none -/
noncomputable def dst2 (p q : Int × Int) : Int := if (vldP p && vldP q) = true then distV (vecOf p.1 p.2) (vecOf q.1 q.2) else 0
def dstE (p q : Int × Int) : Int := if (vldP p && vldP q) = true then 0 else 1
noncomputable def wtF (F : List Fx) (u v : Rf) : Int := dst2 (posD F u) (posD F v)
theorem dst2_bd (p q : Int × Int) : 0 ≤ dst2 p q ∧ dst2 p q ≤ 64800000 := by
  unfold dst2
  split
  · unfold distV
    exact atZ_bd (Int.natCast_nonneg _)
  · omega
theorem wtF_bd (F : List Fx) (u v : Rf) : 0 ≤ wtF F u v ∧ wtF F u v ≤ 64800000 := dst2_bd _ _
/-- both sides' Dist, as one contract -/
theorem sdist_any (p q : Int × Int) (w : World) :
    Calls Tryz.prog 15 #[.agg #[.int .i64 p.1, .int .i64 p.2], .agg #[.int .i64 q.1, .int .i64 q.2]] w fun e w' => e = .returned (.tuple #[.int .i64 (dst2 p q), .int .i64 (dstE p q)]) ∧ Below w.heap.size w w' := by
  unfold dst2 dstE vldP
  by_cases h : (vldB p.1 p.2 && vldB q.1 q.2) = true
  · rw [if_pos h, if_pos h]
    rw [Bool.and_eq_true] at h
    exact sdist_ok _ _ _ _ _ h.1 h.2
  · rw [if_neg h, if_neg h]
    exact sdist_bad _ _ _ _ _ (Bool.eq_false_iff.2 h)
theorem rdist_any (p q : Int × Int) (w : World) :
    Calls Tryz.prog 59 #[.agg #[.int .i64 p.1, .int .i64 p.2], .agg #[.int .i64 q.1, .int .i64 q.2]] w fun e w' => e = .returned (.tuple #[.int .i64 (dst2 p q), .int .i64 (dstE p q)]) ∧ Below w.heap.size w w' := by
  unfold dst2 dstE vldP
  by_cases h : (vldB p.1 p.2 && vldB q.1 q.2) = true
  · rw [if_pos h, if_pos h]
    rw [Bool.and_eq_true] at h
    exact rdist_ok _ _ _ _ _ h.1 h.2
  · rw [if_neg h, if_neg h]
    exact rdist_bad _ _ _ _ _ (Bool.eq_false_iff.2 h)
/-- every segment has a length -/
def SegOk (F : List Fx) (l : List Pt) (n : Nat) : Prop := ∀ j, (h : j + 1 < l.length) → j + 1 < n → (vldP (posD F (l[j]'(by omega)).ref) && vldP (posD F (l[j + 1]'h).ref)) = true
/-- the error ahead of a search -/
def OpenIs (L : List Aw) (F : List Fx) (a b : Rf) (e : Int) : Prop :=
  chkL L ≠ 0 ∧ e = chkL L ∨
  chkL L = 0 ∧ 400 < F.length ∧ e = 3 ∨
  chkL L = 0 ∧ F.length ≤ 400 ∧ (∃ r ∈ a :: b :: allRefs L, findL F r = none) ∧ e = 6 ∨
  chkL L = 0 ∧ F.length ≤ 400 ∧ (∀ r ∈ a :: b :: allRefs L, findL F r ≠ none) ∧ ((∃ A ∈ L, ¬ SegOk F A.pts A.pts.length) ∧ e = 1 ∨ (∀ A ∈ L, SegOk F A.pts A.pts.length) ∧ e = 0)
theorem OpenIs.uniq {L : List Aw} {F : List Fx} {a b : Rf} {e e' : Int} (h : OpenIs L F a b e) (k : OpenIs L F a b e') : e = e' := by
  rcases h with ⟨h1, h2⟩ | ⟨h1, h2, h3⟩ | ⟨h1, h2, ⟨r, hr, hr2⟩, h3⟩ | ⟨h1, h2, h3, h4⟩
  · rcases k with ⟨k1, k2⟩ | ⟨k1, k2, k3⟩ | ⟨k1, k2, k3, k4⟩ | ⟨k1, k2, k3, k4⟩
    · omega
    all_goals exact absurd k1 h1
  · rcases k with ⟨k1, k2⟩ | ⟨k1, k2, k3⟩ | ⟨k1, k2, k3, k4⟩ | ⟨k1, k2, k3, k4⟩
    · exact absurd h1 k1
    all_goals omega
  · rcases k with ⟨k1, k2⟩ | ⟨k1, k2, k3⟩ | ⟨k1, k2, k3, k4⟩ | ⟨k1, k2, k3, k4⟩
    · exact absurd h1 k1
    · omega
    · omega
    · exact absurd hr2 (k3 r hr)
  · rcases k with ⟨k1, k2⟩ | ⟨k1, k2, k3⟩ | ⟨k1, k2, ⟨r, hr, hr2⟩, k4⟩ | ⟨k1, k2, k3, k4⟩
    · exact absurd h1 k1
    · omega
    · exact absurd hr2 (h3 r hr)
    · rcases h4 with ⟨⟨A, hA, hn⟩, h5⟩ | ⟨h5, h6⟩
      · rcases k4 with ⟨_, k5⟩ | ⟨k5, k6⟩
        · omega
        · exact absurd (k5 A hA) hn
      · rcases k4 with ⟨⟨A, hA, hn⟩, k5⟩ | ⟨k5, k6⟩
        · exact absurd (h5 A hA) hn
        · omega
theorem OpenIs.zero {L : List Aw} {F : List Fx} {a b : Rf} (h : OpenIs L F a b 0) : chkL L = 0 ∧ F.length ≤ 400 := by
  rcases h with ⟨h1, h2⟩ | ⟨h1, h2, h3⟩ | ⟨h1, h2, ⟨r, hr, hr2⟩, h3⟩ | ⟨h1, h2, h3, h4⟩
  · omega
  · omega
  · omega
  · exact ⟨h1, h2⟩
theorem chkL_few {L : List Aw} (h : chkL L = 0) : L.length ≤ 60 := by
  unfold chkL at h
  by_cases hl : 60 < L.length
  · rw [if_pos hl] at h; omega
  · omega
/-- positions in a map -/
def rdPosL : List Value → Option (DataW Unit × List MemPlace)
  | [.int .i64 a, .int .i64 b] => some (.agg [.lit (.int .i64 a), .lit (.int .i64 b)], [])
  | _ => none
def rdPos : Value → Option (DataW Unit × List MemPlace)
  | .agg cs => rdPosL cs.toList
  | _ => none
theorem rdPosL_inv {l : List Value} {y : DataW Unit × List MemPlace} (h : rdPosL l = some y) : ∃ a b, l = [.int .i64 a, .int .i64 b] ∧ y = (.agg [.lit (.int .i64 a), .lit (.int .i64 b)], []) := by
  unfold rdPosL at h
  split at h
  · simp only [Option.some.injEq] at h
    exact ⟨_, _, rfl, h.symm⟩
  · cases h
def elmP : Elm (Int × Int) where
  val c := .agg #[.int .i64 c.1, .int .i64 c.2]
  dat c := .agg [.lit (.int .i64 c.1), .lit (.int .i64 c.2)]
  rd := rdPos
  rd_mk c := rfl
  inv v y h := by
    cases v with
    | agg cs =>
      obtain ⟨l⟩ := cs
      obtain ⟨a, b, e, hy⟩ := rdPosL_inv (show rdPosL l = some y from h)
      exact ⟨(a, b), by rw [e], hy⟩
    | _ => cases h
  inj a b h := by
    injection h with h
    injection h with h1 h2
    injection h1 with h1
    injection h1 with h1 h3
    injection h2 with h2 _
    injection h2 with h2
    injection h2 with h2 h4
    exact Prod.ext h3 h4
theorem zeroPos (w : World) : (zeroValue 51).run Tryz.prog w = .ok (elmP.val (0, 0)) w := by kernel_rfl
end Go.Proofs.YtgnnblkpjankgaaGreatDoor
namespace Go.Proofs.YtgnnblkpjankgaaGreatDoor
open Go.RowKit Go.Lib
set_option linter.unusedVariables false
set_option linter.unusedSimpArgs false
/-- the positions of the fixes, as a map -/
def AtlR (w : World) (F : List Fx) (v : Value) : Prop := ∃ b n, v = .map (some b) ∧ MapF elmP w b n (posO F) ∧ n < 1000000
theorem AtlR.below {w w' : World} {F : List Fx} {v : Value} (h : AtlR w F v) (hb : Below w.heap.size w w') : AtlR w' F v := by
  obtain ⟨b, n, h1, h2, h3⟩ := h
  exact ⟨b, n, h1, h2.below' hb, h3⟩
theorem AtlR.get {w : World} {F : List Fx} {b n : Nat} (h : MapF elmP w b n (posO F)) {s : ByteArray} (hs : s.size ≤ maxLen) :
    (Instr.lookup 75 (.map (some b)) (.string s) false).run Tryz.prog w = .ok (.agg #[.int .i64 (posD F (bl s)).1, .int .i64 (posD F (bl s)).2]) w := h.get Tryz.underlying75 (0, 0) (zeroPos _) hs
set_option maxHeartbeats 1000000 in
theorem length_any (v : Value) (F : List Fx) (a b : ByteArray) (w : World) (h : AtlR w F v) (ha : a.size ≤ maxLen) (hb : b.size ≤ maxLen) :
    Calls Tryz.prog 23 #[v, .string a, .string b] w fun e w' => e = .returned (.int .i64 (wtF F (bl a) (bl b))) ∧ Below w.heap.size w w' := by
  obtain ⟨bm, n, rfl, hm, _⟩ := h
  have g1 := AtlR.get hm ha
  have g2 := AtlR.get hm hb
  have di := fun W => sdist_any (posD F (bl a)) (posD F (bl b)) W
  have HW : Hid (dst2 (posD F (bl a)) (posD F (bl b)) = wtF F (bl a) (bl b)) := rfl
  obtain ⟨x, hx⟩ : ∃ x, wtF F (bl a) (bl b) = x := ⟨_, rfl⟩
  rw [hx] at HW ⊢
  rw [HW.out] at di
  generalize posD F (bl a) = p at g1 di
  generalize posD F (bl b) = q at g2 di
  generalize dstE p q = ee at di
  clear hm hx HW
  go_enter Tryz.func23, Tryz.ntmps23
  go_wp2_with fail
  refine (di _).mono ?_
  rintro e w1 ⟨rfl, hb1⟩
  go_wp2
  go_ret
  exact ⟨rfl, hb1⟩
/-! ### the map of positions of a search -/
def OpenPost (L : List Aw) (F : List Fx) (a b : Rf) (w : World) (e : Ending) (w' : World) : Prop :=
  ∃ v er, e = .returned (.tuple #[v, .int .i64 er]) ∧ OpenIs L F a b er ∧ (er = 0 → AtlR w' F v) ∧ Below w.heap.size w w'
/-- the positions of the first fixes -/
theorem posO_step {F : List Fx} {k : Nat} (hk : k < F.length) : posO (F.take (k + 1)) = if posO (F.take k) (fxRef F[k]) = none then setK (posO (F.take k)) (fxRef F[k]) (some (F[k].lat, F[k].lon)) else posO (F.take k) := by
  have e : ∀ x, findL (F.take (k + 1)) x = (findL (F.take k) x).or (if fxRef F[k] = x then some F[k] else none) := fun x => by
    unfold findL
    rw [List.take_succ_eq_append_getElem hk, List.find?_append]
    congr 1
    rw [List.find?_cons]
    by_cases hx : fxRef F[k] = x
    · rw [if_pos hx, decide_eq_true hx]
    · rw [if_neg hx, decide_eq_false hx]; rfl
  by_cases h : posO (F.take k) (fxRef F[k]) = none
  · rw [if_pos h]
    funext x
    unfold posO at h ⊢
    rw [e x]
    by_cases hx : x = fxRef F[k]
    · rw [hx, setK_same]
      rw [Option.map_eq_none_iff] at h
      rw [h, if_pos rfl]; rfl
    · rw [setK_other _ _ hx, if_neg (Ne.symm hx)]
      cases findL (F.take k) x <;> rfl
  · rw [if_neg h]
    funext x
    unfold posO at h ⊢
    rw [e x]
    by_cases hx : fxRef F[k] = x
    · rw [← hx]
      cases hf : findL (F.take k) (fxRef F[k]) with
      | none => rw [hf] at h; exact absurd rfl h
      | some f => rfl
    · rw [if_neg hx]
      cases findL (F.take k) x <;> rfl
theorem fxRef_size {F : List Fx} (hz : SzL F) {k : Nat} (hk : k < F.length) : (sb (fxRef F[k])).size ≤ maxLen := by
  have h := hz.get hk
  show (fxRef F[k]).length ≤ maxLen
  unfold fxRef maxLen
  rw [List.length_append, List.length_cons]
  omega
theorem allRefs_step {L : List Aw} {k : Nat} (hk : k < L.length) : allRefs (L.take (k + 1)) = allRefs (L.take k) ++ L[k].pts.map (·.ref) := by
  unfold allRefs
  rw [List.take_succ_eq_append_getElem hk, List.flatMap_append]
  simp
/-- a look at the map of positions, 'p, ok := m[ref]' -/
theorem wpList_look {w : World} {ops : Array Oper} {rest : List Oper} {o : Oper} {a : Act} {Q : Exit → Act → World → Prop} (hg : o.guard = none) (m x : Operand) (hop : o.op = Op.lookup 75 m x true) (b n : Nat) (mm : List UInt8 → Option (Int × Int))
    (hm : a.eval m = .map (some b)) (h : MapF elmP w b n mm) (s : ByteArray) (r : List UInt8) (hr : bl s = r) (hx : a.eval x = .string s) (hs : s.size ≤ maxLen)
    (hNo : mm r = none → wpList Tryz.prog ops Q rest (a.put o.dst (.tuple #[.agg #[.int .i64 0, .int .i64 0], .bool false])) w)
    (hYes : ∀ la lo : Int, mm r = some (la, lo) → wpList Tryz.prog ops Q rest (a.put o.dst (.tuple #[.agg #[.int .i64 la, .int .i64 lo], .bool true])) w) :
    wpList Tryz.prog ops Q (o :: rest) a w := by
  refine wpList_getOkF w hg m x _ hop 51 Tryz.underlying75 (0, 0) (zeroPos w) b n mm hm h s hx hs ?_
  rw [hr]
  cases hc : mm r with
  | none => exact hNo hc
  | some p => exact hYes p.1 p.2 hc
theorem posO_nil : posO [] = fun _ => none := rfl
theorem rf_step {base : Nat} {w0 wr w' : World} {v v' : Value} {done : List Rf} {x : Rf} {o : Obj} {n : Nat} (hn : done.length = n)
    (hlt : ∀ k, v.ownBlock = some k → base ≤ k ∧ k < wr.heap.size) (hb : Below base w0 wr) (hown' : w'.ownsRow base 9 1 v' (n + 1) (rfcells done ++ [.string (sb x)])) (hg : (wr.alloc o).grownBy w' v.ownBlock) (hB : base ≤ wr.heap.size) :
    w'.ownsRow base 9 1 v' (done ++ [x]).length (rfcells (done ++ [x])) ∧ Below base w0 w' := by
  subst hn
  refine ⟨?_, (hb.alloc hB o).grown hg (by simp; omega) (fun k hk => (hlt k hk).1)⟩
  rw [rfcells_snoc, List.length_append]
  exact hown'
theorem own_two (w : World) (a b : Value) (t : TypeId) {base : Nat} (h : base ≤ w.heap.size) : (w.alloc (.cells #[a, b] t)).ownsRow base t 1 (.slice (some ⟨w.heap.size, 0, none⟩) 2 2) 2 [a, b] :=
  ⟨rfl, .inr ⟨w.heap.size, 2, #[a, b], rfl, h, heap_alloc_new w _, Nat.le_refl _, by unfold maxLen; omega, rfl, rfl⟩⟩
theorem cell_str3 (w : World) (o : Obj) (a : Value) (t : TypeId) : ∀ j u, [a][j]? = some u → ((w.alloc o).alloc (.cells #[a] t)).cell? ((⟨w.heap.size + 1, 0, none⟩ : Addr).add j) = some u := by
  have h := cell_one_new (w.alloc o) a t
  have e : (w.alloc o).heap.size = w.heap.size + 1 := by simp
  rw [e] at h
  exact h
theorem chkL_pts {L : List Aw} (h : chkL L = 0) : ∀ a ∈ L, a.pts.length ≤ 40 := fun a ha => chk_small (chkL_all h a ha)
/-- references that are looked up, so far -/
def refsK (L : List Aw) (a b : Rf) (k : Nat) : List Rf := a :: b :: allRefs (L.take k)
theorem refsK_step {L : List Aw} {a b : Rf} {k : Nat} (hk : k < L.length) : refsK L a b (k + 1) = refsK L a b k ++ L[k].pts.map (·.ref) := by
  unfold refsK; rw [allRefs_step hk]; rfl
theorem refsK_len {L : List Aw} (h : chkL L = 0) (a b : Rf) (k : Nat) : (refsK L a b k).length ≤ 2402 := by
  have h1 := allRefs_len (L.take k) (fun x hx => chkL_pts h x (List.mem_of_mem_take hx))
  have h2 := chkL_few h
  have h3 : (L.take k).length ≤ 60 := by rw [List.length_take]; omega
  unfold refsK
  simp only [List.length_cons]
  omega
set_option maxRecDepth 100000 in
set_option maxHeartbeats 8000000 in
theorem open_any (v fv : Value) (L : List Aw) (F : List Fx) (a b : ByteArray) (w : World) (h : AwsR w v L) (hf : FxsR w fv F) (hz : SzL F) (ha : a.size ≤ maxLen) (hb : b.size ≤ maxLen) :
    Calls Tryz.prog 20 #[v, fv, .string a, .string b] w (OpenPost L F (bl a) (bl b) w) := by
  obtain ⟨i0, hi0, hz0, hz1, hz2⟩ := info_parts infoString
  have hmm := @run_makeMap Tryz.prog
  have H := Lib.hid h
  have HF := Lib.hid hf
  have HZ := Lib.hid hz
  obtain ⟨Af, cf, rfl, hcf, hmf⟩ := hf.form
  obtain ⟨A, c, rfl, hc, hm⟩ := h.form
  unfold maxLen at hm
  obtain ⟨N, hN⟩ : ∃ N, F.length = N := ⟨_, rfl⟩
  have HN := Lib.hid hN
  obtain ⟨n, hn⟩ : ∃ n, L.length = n := ⟨_, rfl⟩
  have HL := Lib.hid hn
  rw [hN] at HF hcf ⊢
  rw [hn] at H hc ⊢
  clear h hf hN hn hz
  go_enter Tryz.func20, Tryz.ntmps20
  go_wp2_with fail
  refine (checkL_any _ L _ H.out).mono ?_
  rintro e w1 ⟨rfl, hb1⟩
  have H1 := Lib.hid (H.out.below hb1)
  have F1 := Lib.hid (HF.out.below hb1)
  have HB1 := Lib.hid hb1
  obtain ⟨er, he⟩ : ∃ e, chkL L = e := ⟨_, rfl⟩
  have HE := Lib.hid he
  rw [he]
  clear hb1 H HF he
  by_cases h0 : er = 0
  case neg =>
    have e0 : (er != 0) = true := bne_iff_ne.2 h0
    have HP : Hid (OpenIs L F (bl a) (bl b) er) := .inl ⟨by rw [HE.out]; exact h0, HE.out.symm⟩
    have H0 := Lib.hid h0
    clear h0
    go_wp2
    go_ret2
    exact ⟨_, _, rfl, HP.out, fun h => absurd h H0.out, HB1.out⟩
  subst h0
  by_cases h400 : 400 < N
  case pos =>
    have h400' : (400 : Int) < (N : Int) := by omega
    have HP : Hid (OpenIs L F (bl a) (bl b) 3) := .inr (.inl ⟨HE.out, by rw [HN.out]; exact h400, rfl⟩)
    clear h400
    go_wp2
    go_ret2
    exact ⟨_, _, rfl, HP.out, fun h => by omega, HB1.out⟩
  have h400' : ¬ (400 : Int) < (N : Int) := by omega
  have hcL := chkL_few HE.out
  rw [HL.out] at hcL
  clear h400
  go_wp2_with fail
  go_loopw [42] (fun i wr => ∃ k : Nat, k ≤ N ∧ i = .int .i64 k ∧ Hid (MapF elmP wr w1.heap.size k (posO (F.take k))) ∧ Hid (Below w1.heap.size w1 wr)) (fun i _ => N - (intOf i).toNat)
  case atStart => exact ⟨0, Nat.zero_le _, by first | rfl | go_num, Lib.hid (by rw [List.take_zero, posO_nil]; exact MapF.made elmP w1), Lib.hid ((Below.refl _ _).alloc (Nat.le_refl _) _)⟩
  case round =>
    obtain ⟨k, hk, rfl, hmp, hbr⟩ := hrel
    by_cases hlt : k < N
    · have hkl : k < F.length := by rw [HN.out]; exact hlt
      obtain ⟨g, o, c', hA, hg, hat⟩ := F1.out.at_ (k := k) hkl
      rw [HN.out] at hA
      simp only [Value.slice.injEq, true_and] at hA
      obtain ⟨rfl, rfl⟩ := hA
      have hsz := HZ.out.get hkl
      have hfs := fxRef_size HZ.out hkl
      have HS := Lib.hid (posO_step hkl)
      obtain ⟨f, hf⟩ : ∃ f, F[k] = f := ⟨_, rfl⟩
      rw [hf] at hat hsz hfs HS
      obtain ⟨c0, c1, c2, c3, c4, c5, c6⟩ := hat.below hg hbr.out hg
      have HX := Lib.hid (fxBox_new wr f)
      have HBX := Lib.hid (hbr.out.alloc hbr.out.size (.cells #[.string (sb f.id), .string (sb f.rg), .int .u8 (f.kd : Int), .int .i64 f.lat, .int .i64 f.lon, .int .i64 f.el, .int .i64 f.ra] 53))
      have HMX := Lib.hid (hmp.out.alloc (.cells #[.string (sb f.id), .string (sb f.rg), .int .u8 (f.kd : Int), .int .i64 f.lat, .int .i64 f.lon, .int .i64 f.el, .int .i64 f.ra] 53))
      have hbm : w1.heap.size < wr.heap.size := hmp.out.lt
      clear hf hkl hat hg hmp hbr
      go_wp2_with fail
      refine (fixRef_any f _ hsz.1 hsz.2).mono ?_
      rintro e w3 ⟨rfl, hb3⟩
      have HX3 := Lib.hid (HX.out.below hb3)
      have HB3 := Lib.hid (Below.then_ HBX.out hb3)
      have HM3 := Lib.hid (HMX.out.below' hb3)
      have hw3 := HB3.out.size
      obtain ⟨d0, d1, d2, d3, d4, d5, d6⟩ := HX3.out.cells
      have hlx := lt_heap HX3.out
      clear hb3 HX HBX HMX c0 c1 c2 c3 c4 c5 c6
      go_wp2_with (at_lookup; refine wpList_look rfl _ _ rfl _ _ _ rfl HM3.out (sb (fxRef f)) (fxRef f) (bl_sb _) rfl hfs ?_ ?_)
      · intro hno
        have HS2 : Hid (posO (F.take (k + 1)) = setK (posO (F.take k)) (fxRef f) (some (f.lat, f.lon))) := by unfold Hid; rw [HS.out, if_pos hno]
        have HM4 := HM3.out.alloc (.cells #[.int .i64 0, .int .i64 0] 51)
        have HB4 := Lib.hid (HB3.out.alloc hw3 (.cells #[.int .i64 0, .int .i64 0] 51))
        clear hno
        go_wp2_with (at_mapUpdate; refine wpList_putF _ rfl _ _ _ _ rfl 51 Tryz.underlying75 _ _ _ rfl HM4 (by unfold maxLen; omega) (sb (fxRef f)) (f.lat, f.lon) rfl rfl hfs ?_)
        intro w4 hm4 hg4
        rw [bl_sb, ← HS2.out] at hm4
        have HM5 := Lib.hid hm4
        have HB5 : Hid (Below w1.heap.size w1 w4) := HB4.out.grown hg4 (by simp; omega) (fun j hj => by injection hj with hj; omega)
        clear hm4 hg4 HM4 d0 d1 d2 d3 d4 d5 d6
        go_wp2
        go_roundw
        case rel => exact ⟨k + 1, hlt, by go_num, HM5, HB5⟩
        case measure => simp [intOf]; omega
      · intro la lo hp
        have HS2 : Hid (posO (F.take (k + 1)) = posO (F.take k)) := by unfold Hid; rw [HS.out, if_neg (by rw [hp]; exact fun h => by cases h)]
        have HM5 : Hid (MapF elmP (w3.alloc (.cells #[.int .i64 la, .int .i64 lo] 51)) w1.heap.size (k + 1) (posO (F.take (k + 1)))) := by unfold Hid; rw [HS2.out]; exact (HM3.out.alloc _).mono (Nat.le_succ _)
        have HB5 := Lib.hid (HB3.out.alloc hw3 (.cells #[.int .i64 la, .int .i64 lo] 51))
        clear hp d0 d1 d2 d3 d4 d5 d6
        go_wp2
        go_roundw
        case rel => exact ⟨k + 1, hlt, by go_num, HM5, HB5⟩
        case measure => simp [intOf]; omega
    · have hkN : N = k := by omega
      subst hkN
      have HM1 : Hid (MapF elmP wr w1.heap.size N (posO F)) := by
        have h1 := hmp.out
        rw [List.take_of_length_le (by rw [HN.out]; exact Nat.le_refl _)] at h1
        exact h1
      have hbm : w1.heap.size < wr.heap.size := hmp.out.lt
      clear hmp
      obtain ⟨w2, rfl⟩ : ∃ w2, w2 = wr := ⟨_, rfl⟩
      have hb2s := hbr.out.size
      have HO2 : Hid ((w2.alloc (.cells #[.string a, .string b] 9)).ownsRow w2.heap.size 9 1 (.slice (some ⟨w2.heap.size, 0, none⟩) 2 2) (refsK L (bl a) (bl b) 0).length (rfcells (refsK L (bl a) (bl b) 0))) := by
        have h1 := own_two w2 (.string a) (.string b) 9 (Nat.le_refl w2.heap.size)
        unfold Hid refsK allRefs rfcells
        rw [List.take_zero]
        simp only [List.flatMap_nil, List.map_cons, List.map_nil, sb_bl]
        exact h1
      have HM2 := Lib.hid (HM1.out.alloc (.cells #[.string a, .string b] 9))
      have HB2 := Lib.hid (hbr.out.alloc hb2s (.cells #[.string a, .string b] 9))
      have hs2 : w2.heap.size ≤ (w2.alloc (.cells #[.string a, .string b] 9)).heap.size := by simp
      clear hbr HM1
      go_wp2_with fail
      go_loopw [17, 66] (fun qv iv wr => ∃ k : Nat, k ≤ n ∧ iv = .int .i64 k ∧ Hid (wr.ownsRow w2.heap.size 9 1 qv (refsK L (bl a) (bl b) k).length (rfcells (refsK L (bl a) (bl b) k))) ∧ Hid (MapF elmP wr w1.heap.size N (posO F)) ∧ Hid (Below w1.heap.size w1 wr) ∧ w2.heap.size ≤ wr.heap.size) (fun _ iv _ => n - (intOf iv).toNat)
      case atStart => exact ⟨0, Nat.zero_le _, by first | rfl | go_num, HO2, HM2, HB2, hs2⟩
      case round =>
        clear HO2 HM2 HB2 hs2
        obtain ⟨k, hk, rfl, hown, hmp, hbr, hws⟩ := hrel
        by_cases hlt : k < n
        · have hkl : k < L.length := by rw [HL.out]; exact hlt
          obtain ⟨g, o, c', pv, hA, hg, x0, x1, x2, x3⟩ := H1.out.at_ hkl
          rw [HL.out] at hA
          simp only [Value.slice.injEq, true_and] at hA
          obtain ⟨rfl, rfl⟩ := hA
          have k0 := (hbr.out.cell (p := ⟨g, o + k * 2, none⟩) hg).trans x0
          have k1 := (hbr.out.cell (p := ⟨g, o + k * 2 + 1, none⟩) hg).trans x1
          have P := Lib.hid x2
          have HS := Lib.hid (refsK_step (a := bl a) (b := bl b) hkl)
          have hpl := chkL_pts HE.out _ (List.getElem_mem hkl)
          have hql := refsK_len HE.out (bl a) (bl b) k
          obtain ⟨A, ha⟩ : ∃ a, L[k] = a := ⟨_, rfl⟩
          rw [ha] at k0 HS P x3 hpl
          clear x0 x1 x2 ha hkl hg
          obtain ⟨q, hq⟩ : ∃ q, refsK L (bl a) (bl b) k = q := ⟨_, rfl⟩
          rw [hq] at hown HS hql
          obtain ⟨Ap, cp, rfl, hcp, hcpm⟩ := P.out.form
          unfold maxLen at hcpm
          obtain ⟨m, hm2⟩ : ∃ m, A.pts.length = m := ⟨_, rfl⟩
          have HM := Lib.hid hm2
          rw [hm2] at P hpl hcp k1
          have HO3 := Lib.hid (hown.out.alloc (.cells #[.string (sb A.name), .slice Ap m cp] 63))
          have HM3 := Lib.hid (hmp.out.alloc (.cells #[.string (sb A.name), .slice Ap m cp] 63))
          have HB3 := Lib.hid (hbr.out.alloc hbr.out.size (.cells #[.string (sb A.name), .slice Ap m cp] 63))
          have hs3 : w2.heap.size ≤ (wr.alloc (.cells #[.string (sb A.name), .slice Ap m cp] 63)).heap.size := by simp; omega
          clear hown hmp hbr hq hm2
          go_wp2_with fail
          go_loopw [17, 73] (fun qv jv wr => ∃ j : Nat, j ≤ m ∧ jv = .int .i64 j ∧ Hid (wr.ownsRow w2.heap.size 9 1 qv (q ++ (A.pts.take j).map (·.ref)).length (rfcells (q ++ (A.pts.take j).map (·.ref)))) ∧ Hid (MapF elmP wr w1.heap.size N (posO F)) ∧ Hid (Below w1.heap.size w1 wr) ∧ w2.heap.size ≤ wr.heap.size) (fun _ jv _ => m - (intOf jv).toNat)
          case atStart => exact ⟨0, Nat.zero_le _, by first | rfl | go_num, by rw [List.take_zero, List.map_nil, List.append_nil]; exact HO3, HM3, HB3, hs3⟩
          case round =>
            clear HO3 HM3 HB3 hs3 k0 k1
            obtain ⟨j, hj, rfl, hown, hmp, hbr, hws2⟩ := hrel
            by_cases hlj : j < m
            · have hjl : j < A.pts.length := by rw [HM.out]; exact hlj
              obtain ⟨gp, op, cq, hA, hgp, y0, y1, y2, y3⟩ := P.out.at_ hjl
              rw [HM.out] at hA
              simp only [Value.slice.injEq, true_and] at hA
              obtain ⟨rfl, rfl⟩ := hA
              have k0 := (hbr.out.cell (p := ⟨gp, op + j * 4, none⟩) hgp).trans y0
              have k1 := (hbr.out.cell (p := ⟨gp, op + j * 4 + 1, none⟩) hgp).trans y1
              have k2 := (hbr.out.cell (p := ⟨gp, op + j * 4 + 2, none⟩) hgp).trans y2
              have k3 := (hbr.out.cell (p := ⟨gp, op + j * 4 + 3, none⟩) hgp).trans y3
              have HT : Hid (q ++ (A.pts.take (j + 1)).map (·.ref) = (q ++ (A.pts.take j).map (·.ref)) ++ [A.pts[j].ref]) := by
                unfold Hid; rw [List.take_succ_eq_append_getElem hjl, List.map_append, List.append_assoc]; rfl
              have hdl : (q ++ (A.pts.take j).map (·.ref)).length ≤ 2442 := by rw [List.length_append, List.length_map, List.length_take]; omega
              obtain ⟨p, hp⟩ : ∃ p, A.pts[j] = p := ⟨_, rfl⟩
              rw [hp] at k0 k1 k2 k3 HT
              obtain ⟨done, hdn⟩ : ∃ d, q ++ (A.pts.take j).map (·.ref) = d := ⟨_, rfl⟩
              rw [hdn] at HT hown hdl
              obtain ⟨dl, hdl2⟩ : ∃ d, done.length = d := ⟨_, rfl⟩
              have HDL := Lib.hid hdl2
              have HOW := hown.out
              rw [hdl2] at HOW hdl
              have hloc := HOW.lt
              have hbm2 : w1.heap.size < wr.heap.size := hmp.out.lt
              have hji : (j : Int) < (m : Int) := by omega
              clear y0 y1 y2 y3 hp hdn hdl2 hown hgp
              go_wp2_with (at_builtin; refine wpList_append_own _ rfl _ _ 71 rfl w2.heap.size 9 i0 (.string ⟨#[]⟩) 1 16 Tryz.underlying71 hi0 hz0 hz1 hz2 rfl (by decide) _ _ _ rfl ((HOW.alloc _).alloc _) ⟨wr.heap.size + 1, 0, none⟩ 1 1 [.string (sb p.ref)] rfl rfl (cell_str3 _ _ _ _) ?c2 ?c3 ?c4 ?c5 ?_)
              case c2 => intro u hu; simp at hu; rcases hu with rfl; rfl
              case c3 => unfold maxLen; omega
              case c4 => omega
              case c5 => simp; omega
              intro v' w' hown' hgrow _
              have HMW : Hid (MapF elmP w' w1.heap.size N (posO F)) := ((hmp.out.alloc _).alloc _).kept hgrow (fun e => by have := hloc _ e.symm; omega)
              have HBW : Hid (Below w1.heap.size w1 w') := ((hbr.out.alloc hbr.out.size _).alloc (by simp; omega) _).grown hgrow (by simp; omega) (fun k hk => by have := hloc _ hk; omega)
              have hsz := hgrow.size
              have R1 : Hid (w'.ownsRow w2.heap.size 9 1 v' (q ++ (A.pts.take (j + 1)).map (·.ref)).length (rfcells (q ++ (A.pts.take (j + 1)).map (·.ref)))) := by
                unfold Hid
                rw [HT.out, rfcells_snoc, List.length_append, HDL.out]
                exact hown'
              have hs4 : w2.heap.size ≤ w'.heap.size := by simp at hsz; omega
              clear hown' hgrow hmp hbr HOW hloc k0 k1 k2 k3 hsz
              go_wp2
              go_roundw
              case rel => exact ⟨j + 1, hlj, by go_num, R1, HMW, HBW, hs4⟩
              case measure => simp [intOf]; omega
            · have hjm : m = j := by omega
              subst hjm
              have R1 : Hid (wr.ownsRow w2.heap.size 9 1 u17 (refsK L (bl a) (bl b) (k + 1)).length (rfcells (refsK L (bl a) (bl b) (k + 1)))) := by
                have h1 := hown.out
                rw [List.take_of_length_le (by rw [HM.out]; exact Nat.le_refl _), ← HS.out] at h1
                exact h1
              clear hown
              go_wp2
              go_roundw
              case rel => exact ⟨k + 1, hlt, by go_num, R1, hmp, hbr, hws2⟩
              case measure => simp [intOf]; omega
        · have hkn : n = k := by omega
          subst hkn
          have HO3 : Hid (wr.ownsRow w2.heap.size 9 1 u17 ((bl a) :: (bl b) :: allRefs L).length (rfcells ((bl a) :: (bl b) :: allRefs L))) := by
            have h1 := hown.out
            unfold refsK at h1
            rw [List.take_of_length_le (by rw [HL.out]; exact Nat.le_refl _)] at h1
            exact h1
          have hql := refsK_len HE.out (bl a) (bl b) n
          unfold refsK at hql
          rw [List.take_of_length_le (by rw [HL.out]; exact Nat.le_refl _)] at hql
          have HFT : Hid (∀ x ∈ (bl a) :: (bl b) :: allRefs L, x.length ≤ maxLen) := by
            intro x hx
            rcases List.mem_cons.1 hx with rfl | hx
            · exact ha
            · rcases List.mem_cons.1 hx with rfl | hx
              · exact hb
              · exact chkL_fit HE.out x hx
          obtain ⟨q, hq⟩ : ∃ q, (bl a) :: (bl b) :: allRefs L = q := ⟨_, rfl⟩
          have HQ := Lib.hid hq
          have hq0 : 0 < q.length := by rw [← hq]; simp
          rw [hq] at HO3 hql HFT
          obtain ⟨m, hm2⟩ : ∃ m, q.length = m := ⟨_, rfl⟩
          have HM := Lib.hid hm2
          obtain ⟨w3, rfl⟩ : ∃ w3, w3 = wr := ⟨_, rfl⟩
          obtain ⟨gq, capq, rfl, hgb, hgs⟩ := HO3.out.form (by omega)
          have HC : Hid (∀ j (hj : j < q.length), w3.cell? ⟨gq, j, none⟩ = some (.string (sb q[j]))) := fun j hj => by
            have h1 := HO3.out.cellAt j (by omega)
            rw [h1]; unfold rfcells; rw [List.getElem?_map, List.getElem?_eq_getElem hj]; rfl
          rw [hm2] at hql hq0 ⊢
          clear hown hq hm2 HO3
          go_wp2_with fail
          go_loopw [86] (fun iv wr => ∃ i : Nat, i ≤ m ∧ iv = .int .i64 i ∧ Hid (∀ j (hj : j < q.length), j < i → findL F q[j] ≠ none) ∧ Hid (Below w3.heap.size w3 wr)) (fun iv _ => m - (intOf iv).toNat)
          case atStart => exact ⟨0, Nat.zero_le _, by first | rfl | go_num, Lib.hid (fun j _ h => absurd h (Nat.not_lt_zero _)), Lib.hid (Below.refl _ _)⟩
          case round =>
            obtain ⟨i, hi, rfl, hall, hb3⟩ := hrel
            by_cases hli : i < m
            · have hiq : i < q.length := by rw [HM.out]; exact hli
              have k0 := (hb3.out.cell (p := ⟨gq, i, none⟩) hgs).trans (HC.out i hiq)
              have hsx := HFT.out _ (List.getElem_mem hiq)
              have HIN := Lib.hid (List.getElem_mem hiq)
              have HST : Hid (findL F q[i] ≠ none → ∀ j (hj : j < q.length), j < i + 1 → findL F q[j] ≠ none) := fun h j hj hji => by
                rcases Nat.lt_or_eq_of_le (Nat.le_of_lt_succ hji) with h1 | rfl
                · exact hall.out j hj h1
                · exact h
              obtain ⟨x, hx⟩ : ∃ x, q[i] = x := ⟨_, rfl⟩
              rw [hx] at k0 hsx HIN HST
              have HMR := Lib.hid (hmp.out.below hb3.out hmp.out.lt)
              have hgr : gq < wr.heap.size := Nat.lt_of_lt_of_le hgs hb3.out.size
              have hsx2 : (sb x).size ≤ maxLen := hsx
              clear hx hiq hall
              go_wp2_with (at_lookup; refine wpList_look rfl _ _ rfl _ _ _ rfl HMR.out (sb x) x (bl_sb _) rfl hsx2 ?_ ?_)
              · intro hno
                have HNO : Hid (findL F x = none) := by
                  unfold posO at hno
                  cases hf : findL F x with
                  | none => exact rfl
                  | some f => rw [hf] at hno; cases hno
                have HP : Hid (OpenIs L F (bl a) (bl b) 6) := .inr (.inr (.inl ⟨HE.out, by rw [HN.out]; omega, ⟨x, by rw [HQ.out]; exact HIN.out, HNO.out⟩, rfl⟩))
                have HBW := Lib.hid (Below.then_ HB1.out (Below.then_ hbr.out (hb3.out.alloc hb3.out.size (.cells #[.int .i64 0, .int .i64 0] 51))))
                clear hno hb3 k0
                go_wp2
                go_ret2
                exact ⟨_, _, rfl, HP.out, fun h => by omega, HBW.out⟩
              · intro la lo hp
                have HST2 := Lib.hid (HST.out (fun hno => by unfold posO at hp; rw [hno] at hp; cases hp))
                have HB4 := Lib.hid (hb3.out.alloc hb3.out.size (.cells #[.int .i64 la, .int .i64 lo] 51))
                clear hp hb3 k0
                go_wp2
                go_roundw
                case rel => exact ⟨i + 1, hli, by go_num, HST2, HB4⟩
                case measure => simp [intOf]; omega
            · have him : m = i := by omega
              subst him
              have HKN : Hid (∀ r ∈ (bl a) :: (bl b) :: allRefs L, findL F r ≠ none) := by
                intro r hr
                rw [HQ.out] at hr
                obtain ⟨j, hj, rfl⟩ := List.mem_iff_getElem.1 hr
                exact hall.out j hj (by rw [HM.out] at hj; exact hj)
              obtain ⟨w4, rfl⟩ : ∃ w4, w4 = wr := ⟨_, rfl⟩
              have HM4 := Lib.hid (hmp.out.below hb3.out hmp.out.lt)
              have HB4 := Lib.hid (Below.then_ hbr.out hb3.out)
              clear hmp hbr hb3 hall HFT HC
              go_wp2_with fail
              go_loopw [101] (fun iv wr => ∃ k : Nat, k ≤ n ∧ iv = .int .i64 k ∧ Hid (∀ B ∈ L.take k, SegOk F B.pts B.pts.length) ∧ Hid (Below w4.heap.size w4 wr)) (fun iv _ => n - (intOf iv).toNat)
              case atStart => exact ⟨0, Nat.zero_le _, by first | rfl | go_num, Lib.hid (fun B hB => by rw [List.take_zero] at hB; cases hB), Lib.hid (Below.refl _ _)⟩
              case round =>
                obtain ⟨k, hk, rfl, hseg, hb5⟩ := hrel
                by_cases hlt : k < n
                · have hkl : k < L.length := by rw [HL.out]; exact hlt
                  obtain ⟨g, o, c', pv, hA, hg, x0, x1, x2, x3⟩ := H1.out.at_ hkl
                  rw [HL.out] at hA
                  simp only [Value.slice.injEq, true_and] at hA
                  obtain ⟨rfl, rfl⟩ := hA
                  have HB5 := Lib.hid (Below.then_ HB4.out hb5.out)
                  have k0 := (HB5.out.cell (p := ⟨g, o + k * 2, none⟩) hg).trans x0
                  have k1 := (HB5.out.cell (p := ⟨g, o + k * 2 + 1, none⟩) hg).trans x1
                  have P := Lib.hid x2
                  have HIN := Lib.hid (List.getElem_mem hkl)
                  have HTK := Lib.hid (List.take_succ_eq_append_getElem hkl)
                  obtain ⟨B, hB⟩ : ∃ a, L[k] = a := ⟨_, rfl⟩
                  rw [hB] at k0 P x3 HIN HTK
                  clear x0 x1 x2 hB hkl hg
                  obtain ⟨Ap, cp, rfl, hcp, hcpm⟩ := P.out.form
                  unfold maxLen at hcpm
                  obtain ⟨mp, hmp⟩ : ∃ m, B.pts.length = m := ⟨_, rfl⟩
                  have HMP := Lib.hid hmp
                  have HFP : Hid (∀ x ∈ B.pts, x.ref.length ≤ maxLen) := fun x hx => (P.out.2 x hx).1
                  rw [hmp] at P hcp k1
                  obtain ⟨w5, rfl⟩ : ∃ w5, w5 = wr := ⟨_, rfl⟩
                  obtain ⟨w6, hw6⟩ : ∃ w6, w5.alloc (.cells #[.string (sb B.name), .slice Ap mp cp] 63) = w6 := ⟨_, rfl⟩
                  have HB6 : Hid (Below w4.heap.size w4 w6) := by rw [← hw6]; exact hb5.out.alloc hb5.out.size _
                  have HX6 : Hid (w6.cell? ⟨w5.heap.size, 1, none⟩ = some (.slice Ap mp cp) ∧ w5.heap.size < w6.heap.size) := by rw [← hw6]; unfold Hid; simp [go_sem]
                  clear hmp hb5
                  go_wp2_with fail
                  try rw [hw6]
                  clear hw6 k0 k1
                  go_loopw [28] (fun iv wr => ∃ j : Nat, iv = .int .i64 ((j : Int) + 1) ∧ j ≤ mp ∧ Hid (SegOk F B.pts (j + 1)) ∧ Hid (Below w6.heap.size w6 wr)) (fun iv _ => mp + 1 - (intOf iv).toNat)
                  case atStart => exact ⟨0, by first | rfl | go_num, Nat.zero_le _, Lib.hid (fun j h1 h2 => by omega), Lib.hid (Below.refl _ _)⟩
                  case round =>
                    obtain ⟨j, rfl, hj, hsk, hb6⟩ := hrel
                    have hmix := mixedD
                    have hb1 : Hid (Below w1.heap.size w1 wr) := Below.then_ HB4.out (Below.then_ HB6.out hb6.out)
                    have q1 : wr.cell? ⟨w5.heap.size, 1, none⟩ = some (.slice Ap mp cp) := (hb6.out.cell (p := ⟨w5.heap.size, 1, none⟩) HX6.out.2).trans HX6.out.1
                    have hq1 : w5.heap.size < wr.heap.size := Nat.lt_of_lt_of_le HX6.out.2 hb6.out.size
                    by_cases hlj : j + 1 < mp
                    · have hj1 : j < B.pts.length := by rw [HMP.out]; omega
                      have hj2 : j + 1 < B.pts.length := by rw [HMP.out]; exact hlj
                      obtain ⟨gp, op, cq, hA, hgp, y0, z1, z2, z3⟩ := P.out.at_ hj1
                      obtain ⟨gp', op', cq', hA', hgp', y0', z1', z2', z3'⟩ := P.out.at_ hj2
                      rw [HMP.out] at hA hA'
                      simp only [Value.slice.injEq, true_and] at hA
                      obtain ⟨rfl, rfl⟩ := hA
                      simp only [Value.slice.injEq, Option.some.injEq, Addr.mk.injEq, and_true, true_and] at hA'
                      obtain ⟨⟨rfl, rfl⟩, rfl⟩ := hA'
                      have HMR := Lib.hid (HM4.out.below (Below.then_ HB6.out hb6.out) HM4.out.lt)
                      have r0 := (hb1.out.cell (p := ⟨gp, op + j * 4, none⟩) hgp).trans y0
                      have r1 := (hb1.out.cell (p := ⟨gp, op + (j + 1) * 4, none⟩) hgp).trans y0'
                      have hgr : gp < wr.heap.size := Nat.lt_of_lt_of_le hgp hb1.out.size
                      have hf0 := HFP.out _ (List.getElem_mem hj1)
                      have hf1 := HFP.out _ (List.getElem_mem hj2)
                      have HSE : Hid ((vldP (posD F (B.pts[j]).ref) && vldP (posD F (B.pts[j + 1]).ref)) = true → SegOk F B.pts (j + 1 + 1)) := fun h j' h1 h2 => by
                        rcases Nat.lt_or_eq_of_le (Nat.le_of_lt_succ h2) with h3 | h3
                        · exact hsk.out j' h1 h3
                        · have : j' = j := by omega
                          subst this
                          exact h
                      have HSN : Hid ((vldP (posD F (B.pts[j]).ref) && vldP (posD F (B.pts[j + 1]).ref)) ≠ true → ¬ SegOk F B.pts B.pts.length) := fun h hs => h (hs j hj2 hj2)
                      obtain ⟨x, hx⟩ : ∃ x, (B.pts[j]).ref = x := ⟨_, rfl⟩
                      obtain ⟨z, hz⟩ : ∃ x, (B.pts[j + 1]).ref = x := ⟨_, rfl⟩
                      rw [hx] at r0 hf0
                      rw [hz] at r1 hf1
                      rw [hx, hz] at HSE HSN
                      have g0 := fun p : BelBy wr => AtlR.get (HMR.out.below' p.h) (s := sb x) hf0
                      have g1 := fun p : BelBy wr => AtlR.get (HMR.out.below' p.h) (s := sb z) hf1
                      have b1 := fun p : BelBy wr => (p.h.cell (p := ⟨w5.heap.size, 1, none⟩) hq1).trans q1
                      have s0 := fun p : BelBy wr => (p.h.cell (p := ⟨gp, op + j * 4, none⟩) hgr).trans r0
                      have s1 := fun p : BelBy wr => (p.h.cell (p := ⟨gp, op + (j + 1) * 4, none⟩) hgr).trans r1
                      rw [bl_sb] at g0 g1
                      have di := fun W => sdist_any (posD F x) (posD F z) W
                      have HDE : Hid (dstE (posD F x) (posD F z) = if (vldP (posD F x) && vldP (posD F z)) = true then 0 else 1) := rfl
                      generalize posD F x = px at g0 di HSE HSN HDE
                      generalize posD F z = pz at g1 di HSE HSN HDE
                      generalize dst2 px pz = dd at di
                      obtain ⟨ee, hee⟩ : ∃ e, dstE px pz = e := ⟨_, rfl⟩
                      rw [hee] at di HDE
                      have e6 : IntKind.i64.wrap (j : Int) = (j : Int) := IntWalk.i64_in _ (by omega)
                      have e1 : IntKind.i64.wrap ((j : Int) + 1 - 1) = (j : Int) := by rw [show (j : Int) + 1 - 1 = (j : Int) by omega]; exact e6
                      have e2 : ((j : Int) + 1).toNat = j + 1 := by omega
                      have e3 : (j : Int) + 1 < (mp : Int) := by omega
                      have e4 : (j : Int) < (mp : Int) := by omega
                      have e5 : (0 : Int) ≤ (j : Int) + 1 := by omega
                      clear y0 y0' z1 z2 z3 z1' z2' z3' hx hz hj1 hj2 hgp hgp' hee HMR
                      go_wp2_with fail
                      refine wp_region_quiet_bel (by assumption) (by kernel_rfl) ?_
                      repeat (quiet_step (first | (go_at_call 15; exact Calls.bel_of (di _))))
                      refine wpQuiet_nil ?_
                      rintro wz ⟨pw, hwz⟩
                      have HBZ : Hid (Below w6.heap.size w6 wz) := by rw [hwz]; exact Below.then_ hb6.out pw.h
                      clear hwz pw g0 g1 b1 s0 s1 di r0 r1 q1 e1 e6 hb6 hb1
                      by_cases hv : (vldP px && vldP pz) = true
                      · have HS2 := Lib.hid (HSE.out hv)
                        have he0 : ee = 0 := by rw [HDE.out, if_pos hv]
                        subst he0
                        clear hv HSE HSN HDE
                        go_wp2
                        go_roundw
                        case rel => exact ⟨j + 1, by go_num, by omega, HS2, HBZ⟩
                        case measure => simp [intOf]; omega
                      · have HS2 := Lib.hid (HSN.out hv)
                        have he0 : ee = 1 := by rw [HDE.out, if_neg hv]
                        subst he0
                        have HP : Hid (OpenIs L F (bl a) (bl b) 1) := .inr (.inr (.inr ⟨HE.out, by rw [HN.out]; omega, HKN.out, .inl ⟨⟨B, HIN.out, HS2.out⟩, rfl⟩⟩))
                        have HBW : Hid (Below w.heap.size w wz) := Below.then_ HB1.out (Below.then_ HB4.out (Below.then_ HB6.out HBZ.out))
                        clear hv HSE HSN HDE
                        go_wp2
                        go_ret2
                        exact ⟨_, _, rfl, HP.out, fun h => by omega, HBW.out⟩
                    · have HS2 : Hid (SegOk F B.pts B.pts.length) := fun j' h1 h2 => hsk.out j' h1 (by rw [HMP.out] at h1; omega)
                      have HSG : Hid (∀ B' ∈ L.take (k + 1), SegOk F B'.pts B'.pts.length) := fun B' hB' => by
                        rw [HTK.out, List.mem_append, List.mem_singleton] at hB'
                        rcases hB' with h1 | rfl
                        · exact hseg.out B' h1
                        · exact HS2.out
                      have HBK : Hid (Below w4.heap.size w4 wr) := Below.then_ HB6.out hb6.out
                      have e3 : ¬ (j : Int) + 1 < (mp : Int) := by omega
                      clear hb6 hseg hsk hb1
                      go_wp2
                      go_roundw
                      case rel => exact ⟨k + 1, hlt, by go_num, HSG, HBK⟩
                      case measure => simp [intOf]; omega
                · have HSG : Hid (∀ B ∈ L, SegOk F B.pts B.pts.length) := fun B hB => hseg.out B (by rw [List.take_of_length_le (by rw [HL.out]; omega)]; exact hB)
                  have HP : Hid (OpenIs L F (bl a) (bl b) 0) := .inr (.inr (.inr ⟨HE.out, by rw [HN.out]; omega, HKN.out, .inr ⟨HSG.out, rfl⟩⟩))
                  have HAT : Hid (AtlR wr F (.map (some w1.heap.size))) := ⟨_, N, rfl, HM4.out.below hb5.out HM4.out.lt, by omega⟩
                  have HBW : Hid (Below w.heap.size w wr) := Below.then_ HB1.out (Below.then_ HB4.out hb5.out)
                  clear hb5 hseg
                  go_wp2
                  go_ret2
                  exact ⟨_, _, rfl, HP.out, fun _ => HAT.out, HBW.out⟩
end Go.Proofs.YtgnnblkpjankgaaGreatDoor
namespace Go.Proofs.YtgnnblkpjankgaaGreatDoor
open Go.RowKit Go.Lib
set_option linter.unusedVariables false
set_option linter.unusedSimpArgs false
set_option maxRecDepth 100000 in
set_option maxHeartbeats 2000000 in
theorem rlength_any (v : Value) (F : List Fx) (a b : ByteArray) (w : World) (h : FxsR w v F) (hz : SzL F) (hN : F.length ≤ 1000000000000) :
    Calls Tryz.prog 28 #[v, .string a, .string b] w fun e w' => e = .returned (.tuple #[.int .i64 (wtF F (bl a) (bl b)), .int .i64 (dstE (posD F (bl a)) (posD F (bl b)))]) ∧ Below w.heap.size w w' := by
  have H := Lib.hid h
  have HZ := Lib.hid hz
  have di := fun W => rdist_any (posD F (bl a)) (posD F (bl b)) W
  have HW : Hid (dst2 (posD F (bl a)) (posD F (bl b)) = wtF F (bl a) (bl b)) := rfl
  obtain ⟨x, hx⟩ : ∃ x, wtF F (bl a) (bl b) = x := ⟨_, rfl⟩
  rw [hx] at HW ⊢
  rw [HW.out] at di
  obtain ⟨ee, hee⟩ : ∃ x, dstE (posD F (bl a)) (posD F (bl b)) = x := ⟨_, rfl⟩
  rw [hee] at di ⊢
  rw [posD_find, posD_find] at di
  clear hx HW h hz hee
  go_enter Tryz.func28, Tryz.ntmps28
  go_wp2_with fail
  refine (rfind_any v F a _ H.out HZ.out hN).mono ?_
  rintro e w1 ⟨rfl, hb1⟩
  obtain ⟨p, hp⟩ : ∃ p, (findL F (bl a)).getD fx0 = p := ⟨_, rfl⟩
  obtain ⟨bo, hbo⟩ : ∃ y, (findL F (bl a)).isSome = y := ⟨_, rfl⟩
  rw [hp] at di
  rw [hp, hbo]
  have X1 := Lib.hid (fxBox_new w1 p)
  have HB1 := Lib.hid (hb1.alloc hb1.size (.cells #[.string (sb p.id), .string (sb p.rg), .int .u8 (p.kd : Int), .int .i64 p.lat, .int .i64 p.lon, .int .i64 p.el, .int .i64 p.ra] 53))
  have H1 := Lib.hid (H.out.below HB1.out)
  clear hb1 hp hbo
  go_wp2_with fail
  refine (rfind_any v F b _ H1.out HZ.out hN).mono ?_
  rintro e w2 ⟨rfl, hb2⟩
  obtain ⟨q, hq⟩ : ∃ p, (findL F (bl b)).getD fx0 = p := ⟨_, rfl⟩
  obtain ⟨bo2, hbo⟩ : ∃ y, (findL F (bl b)).isSome = y := ⟨_, rfl⟩
  rw [hq] at di
  rw [hq, hbo]
  have X2 := Lib.hid (fxBox_new w2 q)
  have X1' := Lib.hid ((X1.out.below hb2).below ((RowKit.Below.refl _ w2).alloc (Nat.le_refl _) (.cells #[.string (sb q.id), .string (sb q.rg), .int .u8 (q.kd : Int), .int .i64 q.lat, .int .i64 q.lon, .int .i64 q.el, .int .i64 q.ra] 53)))
  have HB2 := Lib.hid ((Below.then_ HB1.out hb2).alloc (Below.then_ HB1.out hb2).size (.cells #[.string (sb q.id), .string (sb q.rg), .int .u8 (q.kd : Int), .int .i64 q.lat, .int .i64 q.lon, .int .i64 q.el, .int .i64 q.ra] 53))
  obtain ⟨W3, hW3⟩ : ∃ W, w2.alloc (.cells #[.string (sb q.id), .string (sb q.rg), .int .u8 (q.kd : Int), .int .i64 q.lat, .int .i64 q.lon, .int .i64 q.el, .int .i64 q.ra] 53) = W := ⟨_, rfl⟩
  rw [hW3] at X2 X1' HB2
  obtain ⟨c0, c1, c2, c3, c4, c5, c6⟩ := X1'.out.cells
  obtain ⟨d0, d1, d2, d3, d4, d5, d6⟩ := X2.out.cells
  have hl1 := lt_heap X1'.out
  have hl2 := lt_heap X2.out
  clear hb2 hq hbo X1 HB1
  go_wp2_with fail
  try rw [hW3]
  clear hW3
  go_wp2_with fail
  refine (di _).mono ?_
  rintro e w3 ⟨rfl, hb3⟩
  have HE := Lib.hid (Below.then_ HB2.out hb3)
  clear hb3 c0 c1 c2 c3 c4 c5 c6 d0 d1 d2 d3 d4 d5 d6
  go_wp2
  go_ret2
  exact ⟨rfl, HE.out⟩
set_option maxRecDepth 100000 in
set_option maxHeartbeats 8000000 in
theorem ready_any (v fv : Value) (L : List Aw) (F : List Fx) (a b : ByteArray) (w : World) (h : AwsR w v L) (hf : FxsR w fv F) (hz : SzL F) :
    Calls Tryz.prog 25 #[v, fv, .string a, .string b] w fun e w' => ∃ er, e = .returned (.int .i64 er) ∧ OpenIs L F (bl a) (bl b) er ∧ Below w.heap.size w w' := by
  have H := Lib.hid h
  have HF := Lib.hid hf
  have HZ := Lib.hid hz
  obtain ⟨Af, cf, rfl, hcf, hmf⟩ := hf.form
  obtain ⟨A, c, rfl, hc, hm⟩ := h.form
  unfold maxLen at hm
  obtain ⟨N, hN⟩ : ∃ N, F.length = N := ⟨_, rfl⟩
  have HN := Lib.hid hN
  obtain ⟨n, hn⟩ : ∃ n, L.length = n := ⟨_, rfl⟩
  have HL := Lib.hid hn
  rw [hN] at HF hcf ⊢
  rw [hn] at H hc ⊢
  clear h hf hN hn hz
  go_enter Tryz.func25, Tryz.ntmps25
  go_wp2_with fail
  refine (rcheckL_any _ L _ H.out).mono ?_
  rintro e w1 ⟨rfl, hb1⟩
  have H1 := Lib.hid (H.out.below hb1)
  have F1 := Lib.hid (HF.out.below hb1)
  have HB1 := Lib.hid hb1
  obtain ⟨er, he⟩ : ∃ e, chkL L = e := ⟨_, rfl⟩
  have HE := Lib.hid he
  rw [he]
  clear hb1 H HF he
  by_cases h0 : er = 0
  case neg =>
    have e0 : (er != 0) = true := bne_iff_ne.2 h0
    have HP : Hid (OpenIs L F (bl a) (bl b) er) := .inl ⟨by rw [HE.out]; exact h0, HE.out.symm⟩
    clear h0
    go_wp2
    go_ret
    exact ⟨_, rfl, HP.out, HB1.out⟩
  subst h0
  by_cases h400 : 400 < N
  case pos =>
    have h400' : (400 : Int) < (N : Int) := by omega
    have HP : Hid (OpenIs L F (bl a) (bl b) 3) := .inr (.inl ⟨HE.out, by rw [HN.out]; exact h400, rfl⟩)
    clear h400
    go_wp2
    go_ret
    exact ⟨_, rfl, HP.out, HB1.out⟩
  have h400' : ¬ (400 : Int) < (N : Int) := by omega
  have hcL := chkL_few HE.out
  rw [HL.out] at hcL
  have HNF : Hid (F.length ≤ 1000000000000) := by rw [HN.out]; unfold Hid; omega
  clear h400
  go_wp2_with fail
  refine (rfind_any _ F a _ F1.out HZ.out HNF.out).mono ?_
  rintro e w2 ⟨rfl, hb2⟩
  obtain ⟨p, hp⟩ : ∃ p, (findL F (bl a)).getD fx0 = p := ⟨_, rfl⟩
  obtain ⟨oa, hoa⟩ : ∃ y, findL F (bl a) = y := ⟨_, rfl⟩
  have HOA := Lib.hid hoa
  rw [hp, hoa]
  have HB2 := Lib.hid (hb2.alloc hb2.size (.cells #[.string (sb p.id), .string (sb p.rg), .int .u8 (p.kd : Int), .int .i64 p.lat, .int .i64 p.lon, .int .i64 p.el, .int .i64 p.ra] 53))
  have F2 := Lib.hid (F1.out.below HB2.out)
  clear hb2 hp hoa
  go_wp2_with fail
  refine (rfind_any _ F b _ F2.out HZ.out HNF.out).mono ?_
  rintro e w3 ⟨rfl, hb3⟩
  obtain ⟨q, hq⟩ : ∃ p, (findL F (bl b)).getD fx0 = p := ⟨_, rfl⟩
  obtain ⟨ob, hob⟩ : ∃ y, findL F (bl b) = y := ⟨_, rfl⟩
  have HOB := Lib.hid hob
  rw [hq, hob]
  have HB3 := Lib.hid ((Below.then_ HB2.out hb3).alloc (Below.then_ HB2.out hb3).size (.cells #[.string (sb q.id), .string (sb q.rg), .int .u8 (q.kd : Int), .int .i64 q.lat, .int .i64 q.lon, .int .i64 q.el, .int .i64 q.ra] 53))
  obtain ⟨w4, hw4⟩ : ∃ W, w3.alloc (.cells #[.string (sb q.id), .string (sb q.rg), .int .u8 (q.kd : Int), .int .i64 q.lat, .int .i64 q.lon, .int .i64 q.el, .int .i64 q.ra] 53) = W := ⟨_, rfl⟩
  rw [hw4] at HB3
  clear hb3 hq hob HB2 F2
  have HNO : Hid (oa = none ∨ ob = none → OpenIs L F (bl a) (bl b) 6) := fun h => .inr (.inr (.inl ⟨HE.out, by rw [HN.out]; omega, by
    rcases h with h | h
    · exact ⟨bl a, by simp, by rw [HOA.out]; exact h⟩
    · exact ⟨bl b, by simp, by rw [HOB.out]; exact h⟩, rfl⟩))
  rcases oa with _ | pa
  · have HP := Lib.hid (HNO.out (.inl rfl))
    have HBW := Lib.hid (Below.then_ HB1.out HB3.out)
    clear HNO
    go_wp2_with fail
    try rw [hw4]
    go_wp2
    go_ret
    exact ⟨_, rfl, HP.out, HBW.out⟩
  rcases ob with _ | pb
  · have HP := Lib.hid (HNO.out (.inr rfl))
    have HBW := Lib.hid (Below.then_ HB1.out HB3.out)
    clear HNO
    go_wp2_with fail
    try rw [hw4]
    go_wp2
    go_ret
    exact ⟨_, rfl, HP.out, HBW.out⟩
  clear HNO
  go_wp2_with fail
  try rw [hw4]
  clear hw4
  try go_wp2_with fail
  go_loopw [53] (fun iv wr => ∃ k : Nat, k ≤ n ∧ iv = .int .i64 k ∧ Hid (∀ x ∈ allRefs (L.take k), findL F x ≠ none) ∧ Hid (Below w1.heap.size w1 wr)) (fun iv _ => n - (intOf iv).toNat)
  case atStart => exact ⟨0, Nat.zero_le _, by first | rfl | go_num, Lib.hid (fun x hx => by rw [List.take_zero] at hx; cases hx), HB3⟩
  case round =>
    obtain ⟨k, hk, rfl, hall, hbr⟩ := hrel
    by_cases hlt : k < n
    · have hkl : k < L.length := by rw [HL.out]; exact hlt
      obtain ⟨g, o, c', pv, hA, hg, x0, x1, x2, x3⟩ := H1.out.at_ hkl
      rw [HL.out] at hA
      simp only [Value.slice.injEq, true_and] at hA
      obtain ⟨rfl, rfl⟩ := hA
      have k0 := (hbr.out.cell (p := ⟨g, o + k * 2, none⟩) hg).trans x0
      have k1 := (hbr.out.cell (p := ⟨g, o + k * 2 + 1, none⟩) hg).trans x1
      have P := Lib.hid x2
      have HS := Lib.hid (allRefs_step hkl)
      have HMA : Hid (∀ x ∈ (L[k]).pts.map (·.ref), x ∈ allRefs L) := fun x hx => by
        unfold allRefs
        rw [List.mem_flatMap]
        exact ⟨_, List.getElem_mem hkl, hx⟩
      obtain ⟨B, hB⟩ : ∃ a, L[k] = a := ⟨_, rfl⟩
      rw [hB] at k0 P x3 HS HMA
      clear x0 x1 x2 hB hkl hg
      obtain ⟨Ap, cp, rfl, hcp, hcpm⟩ := P.out.form
      unfold maxLen at hcpm
      obtain ⟨mp, hmp⟩ : ∃ m, B.pts.length = m := ⟨_, rfl⟩
      have HMP := Lib.hid hmp
      rw [hmp] at P hcp k1
      obtain ⟨w5, rfl⟩ : ∃ w5, w5 = wr := ⟨_, rfl⟩
      have HB6 := Lib.hid (hbr.out.alloc hbr.out.size (.cells #[.string (sb B.name), .slice Ap mp cp] 63))
      clear hmp hbr
      go_wp2_with fail
      go_loopw [60] (fun jv wr => ∃ j : Nat, j ≤ mp ∧ jv = .int .i64 j ∧ Hid (∀ x ∈ (B.pts.take j).map (·.ref), findL F x ≠ none) ∧ Hid (Below w1.heap.size w1 wr)) (fun jv _ => mp - (intOf jv).toNat)
      case atStart => exact ⟨0, Nat.zero_le _, by first | rfl | go_num, Lib.hid (fun x hx => by rw [List.take_zero] at hx; cases hx), HB6⟩
      case round =>
        clear k0 k1 HB6
        obtain ⟨j, hj, rfl, hpre, hbr⟩ := hrel
        by_cases hlj : j < mp
        · have hjl : j < B.pts.length := by rw [HMP.out]; exact hlj
          obtain ⟨gp, op, cq, hA, hgp, y0, y1, y2, y3⟩ := P.out.at_ hjl
          rw [HMP.out] at hA
          simp only [Value.slice.injEq, true_and] at hA
          obtain ⟨rfl, rfl⟩ := hA
          have k0 := (hbr.out.cell (p := ⟨gp, op + j * 4, none⟩) hgp).trans y0
          have k1 := (hbr.out.cell (p := ⟨gp, op + j * 4 + 1, none⟩) hgp).trans y1
          have k2 := (hbr.out.cell (p := ⟨gp, op + j * 4 + 2, none⟩) hgp).trans y2
          have k3 := (hbr.out.cell (p := ⟨gp, op + j * 4 + 3, none⟩) hgp).trans y3
          have HT := Lib.hid (List.take_succ_eq_append_getElem hjl)
          have HPM := Lib.hid (HMA.out _ (List.mem_map.2 ⟨_, List.getElem_mem hjl, rfl⟩))
          obtain ⟨p, hp⟩ : ∃ p, B.pts[j] = p := ⟨_, rfl⟩
          rw [hp] at k0 k1 k2 k3 HT HPM
          have HBX := Lib.hid (hbr.out.alloc hbr.out.size (.cells #[.string (sb p.ref), .int .i64 p.lo, .int .i64 p.hi, .int .u8 (p.dir : Int)] 68))
          have FX := Lib.hid (F1.out.below HBX.out)
          clear y0 y1 y2 y3 hp hjl hgp hbr
          go_wp2_with fail
          refine (rfind_any _ F (sb p.ref) _ FX.out HZ.out HNF.out).mono ?_
          rintro e w7 ⟨rfl, hb7⟩
          rw [bl_sb]
          obtain ⟨z, hz⟩ : ∃ p', (findL F p.ref).getD fx0 = p' := ⟨_, rfl⟩
          obtain ⟨oz, hoz⟩ : ∃ y, findL F p.ref = y := ⟨_, rfl⟩
          have HOZ := Lib.hid hoz
          rw [hz, hoz]
          have HB7 := Lib.hid ((Below.then_ HBX.out hb7).alloc (Below.then_ HBX.out hb7).size (.cells #[.string (sb z.id), .string (sb z.rg), .int .u8 (z.kd : Int), .int .i64 z.lat, .int .i64 z.lon, .int .i64 z.el, .int .i64 z.ra] 53))
          clear hb7 hz hoz HBX FX k0 k1 k2 k3
          rcases oz with _ | pz
          · have HP : Hid (OpenIs L F (bl a) (bl b) 6) := .inr (.inr (.inl ⟨HE.out, by rw [HN.out]; omega, ⟨p.ref, List.mem_cons_of_mem _ (List.mem_cons_of_mem _ HPM.out), HOZ.out⟩, rfl⟩))
            have HBW := Lib.hid (Below.then_ HB1.out HB7.out)
            clear HB7 hpre
            go_wp2
            go_ret
            exact ⟨_, rfl, HP.out, HBW.out⟩
          · have HPR : Hid (∀ x ∈ (B.pts.take (j + 1)).map (·.ref), findL F x ≠ none) := fun x hx => by
              rw [HT.out, List.map_append, List.mem_append] at hx
              rcases hx with hx | hx
              · exact hpre.out x hx
              · have : x = p.ref := by simpa using hx
                rw [this, HOZ.out]; exact fun h => by cases h
            clear hpre
            go_wp2
            go_roundw
            case rel => exact ⟨j + 1, hlj, by go_num, HPR, HB7⟩
            case measure => simp [intOf]; omega
        · have HAL : Hid (∀ x ∈ allRefs (L.take (k + 1)), findL F x ≠ none) := fun x hx => by
            rw [HS.out, List.mem_append] at hx
            rcases hx with hx | hx
            · exact hall.out x hx
            · exact hpre.out x (by rw [List.take_of_length_le (by rw [HMP.out]; omega)]; exact hx)
          clear hpre hall
          go_wp2
          go_roundw
          case rel => exact ⟨k + 1, hlt, by go_num, HAL, hbr⟩
          case measure => simp [intOf]; omega
    · have HKN : Hid (∀ r ∈ (bl a) :: (bl b) :: allRefs L, findL F r ≠ none) := by
        intro r hr
        rcases List.mem_cons.1 hr with rfl | hr
        · rw [HOA.out]; exact fun h => by cases h
        · rcases List.mem_cons.1 hr with rfl | hr
          · rw [HOB.out]; exact fun h => by cases h
          · exact hall.out r (by rw [List.take_of_length_le (by rw [HL.out]; omega)]; exact hr)
      obtain ⟨w5, rfl⟩ : ∃ w5, w5 = wr := ⟨_, rfl⟩
      have HB5 := Lib.hid hbr.out
      clear hall hbr
      go_wp2_with fail
      go_loopw [77] (fun iv wr => ∃ k : Nat, k ≤ n ∧ iv = .int .i64 k ∧ Hid (∀ B ∈ L.take k, SegOk F B.pts B.pts.length) ∧ Hid (Below w5.heap.size w5 wr)) (fun iv _ => n - (intOf iv).toNat)
      case atStart => exact ⟨0, Nat.zero_le _, by first | rfl | go_num, Lib.hid (fun B hB => by rw [List.take_zero] at hB; cases hB), Lib.hid (Below.refl _ _)⟩
      case round =>
        obtain ⟨k, hk, rfl, hseg, hb5⟩ := hrel
        by_cases hlt : k < n
        · have hkl : k < L.length := by rw [HL.out]; exact hlt
          obtain ⟨g, o, c', pv, hA, hg, x0, x1, x2, x3⟩ := H1.out.at_ hkl
          rw [HL.out] at hA
          simp only [Value.slice.injEq, true_and] at hA
          obtain ⟨rfl, rfl⟩ := hA
          have HBr := Lib.hid (Below.then_ HB5.out hb5.out)
          have k0 := (HBr.out.cell (p := ⟨g, o + k * 2, none⟩) hg).trans x0
          have k1 := (HBr.out.cell (p := ⟨g, o + k * 2 + 1, none⟩) hg).trans x1
          have P := Lib.hid x2
          have HIN := Lib.hid (List.getElem_mem hkl)
          have HTK := Lib.hid (List.take_succ_eq_append_getElem hkl)
          obtain ⟨B, hB⟩ : ∃ a, L[k] = a := ⟨_, rfl⟩
          rw [hB] at k0 P x3 HIN HTK
          clear x0 x1 x2 hB hkl hg
          obtain ⟨Ap, cp, rfl, hcp, hcpm⟩ := P.out.form
          unfold maxLen at hcpm
          obtain ⟨mp, hmp⟩ : ∃ m, B.pts.length = m := ⟨_, rfl⟩
          have HMP := Lib.hid hmp
          have HFP : Hid (∀ x ∈ B.pts, x.ref.length ≤ maxLen) := fun x hx => (P.out.2 x hx).1
          rw [hmp] at P hcp k1
          obtain ⟨w8, rfl⟩ : ∃ w8, w8 = wr := ⟨_, rfl⟩
          obtain ⟨w6, hw6⟩ : ∃ w6, w8.alloc (.cells #[.string (sb B.name), .slice Ap mp cp] 63) = w6 := ⟨_, rfl⟩
          have HB6 : Hid (Below w5.heap.size w5 w6) := by rw [← hw6]; exact hb5.out.alloc hb5.out.size _
          have HX6 : Hid (w6.cell? ⟨w8.heap.size, 1, none⟩ = some (.slice Ap mp cp) ∧ w8.heap.size < w6.heap.size) := by rw [← hw6]; unfold Hid; simp [go_sem]
          clear hmp hb5
          go_wp2_with fail
          try rw [hw6]
          clear hw6 k0 k1
          go_loopw [22] (fun iv wr => ∃ j : Nat, iv = .int .i64 ((j : Int) + 1) ∧ j ≤ mp ∧ Hid (SegOk F B.pts (j + 1)) ∧ Hid (Below w6.heap.size w6 wr)) (fun iv _ => mp + 1 - (intOf iv).toNat)
          case atStart => exact ⟨0, by first | rfl | go_num, Nat.zero_le _, Lib.hid (fun j h1 h2 => by omega), Lib.hid (Below.refl _ _)⟩
          case round =>
            obtain ⟨j, rfl, hj, hsk, hb6⟩ := hrel
            have hmix := mixedD
            have hb1 : Hid (Below w1.heap.size w1 wr) := Below.then_ HB5.out (Below.then_ HB6.out hb6.out)
            have q1 : wr.cell? ⟨w8.heap.size, 1, none⟩ = some (.slice Ap mp cp) := (hb6.out.cell (p := ⟨w8.heap.size, 1, none⟩) HX6.out.2).trans HX6.out.1
            have hq1 : w8.heap.size < wr.heap.size := Nat.lt_of_lt_of_le HX6.out.2 hb6.out.size
            by_cases hlj : j + 1 < mp
            · have hj1 : j < B.pts.length := by rw [HMP.out]; omega
              have hj2 : j + 1 < B.pts.length := by rw [HMP.out]; exact hlj
              obtain ⟨gp, op, cq, hA, hgp, y0, z1, z2, z3⟩ := P.out.at_ hj1
              obtain ⟨gp', op', cq', hA', hgp', y0', z1', z2', z3'⟩ := P.out.at_ hj2
              rw [HMP.out] at hA hA'
              simp only [Value.slice.injEq, true_and] at hA
              obtain ⟨rfl, rfl⟩ := hA
              simp only [Value.slice.injEq, Option.some.injEq, Addr.mk.injEq, and_true, true_and] at hA'
              obtain ⟨⟨rfl, rfl⟩, rfl⟩ := hA'
              have r0 := (hb1.out.cell (p := ⟨gp, op + j * 4, none⟩) hgp).trans y0
              have r1 := (hb1.out.cell (p := ⟨gp, op + (j + 1) * 4, none⟩) hgp).trans y0'
              have hgr : gp < wr.heap.size := Nat.lt_of_lt_of_le hgp hb1.out.size
              have hf0 := HFP.out _ (List.getElem_mem hj1)
              have hf1 := HFP.out _ (List.getElem_mem hj2)
              have HSE : Hid ((vldP (posD F (B.pts[j]).ref) && vldP (posD F (B.pts[j + 1]).ref)) = true → SegOk F B.pts (j + 1 + 1)) := fun h j' h1 h2 => by
                rcases Nat.lt_or_eq_of_le (Nat.le_of_lt_succ h2) with h3 | h3
                · exact hsk.out j' h1 h3
                · have : j' = j := by omega
                  subst this
                  exact h
              have HSN : Hid ((vldP (posD F (B.pts[j]).ref) && vldP (posD F (B.pts[j + 1]).ref)) ≠ true → ¬ SegOk F B.pts B.pts.length) := fun h hs => h (hs j hj2 hj2)
              obtain ⟨x, hx⟩ : ∃ x, (B.pts[j]).ref = x := ⟨_, rfl⟩
              obtain ⟨z, hz⟩ : ∃ x, (B.pts[j + 1]).ref = x := ⟨_, rfl⟩
              rw [hx] at r0 hf0
              rw [hz] at r1 hf1
              rw [hx, hz] at HSE HSN
              have FR := Lib.hid (F1.out.below hb1.out)
              have li := fun p : BelBy wr => rlength_any _ F (sb x) (sb z) p.x (FR.out.below p.h) HZ.out HNF.out
              have b1 := fun p : BelBy wr => (p.h.cell (p := ⟨w8.heap.size, 1, none⟩) hq1).trans q1
              have s0 := fun p : BelBy wr => (p.h.cell (p := ⟨gp, op + j * 4, none⟩) hgr).trans r0
              have s1 := fun p : BelBy wr => (p.h.cell (p := ⟨gp, op + (j + 1) * 4, none⟩) hgr).trans r1
              have HDE : Hid (dstE (posD F x) (posD F z) = if (vldP (posD F x) && vldP (posD F z)) = true then 0 else 1) := rfl
              simp only [bl_sb] at li
              generalize wtF F x z = dd at li
              obtain ⟨ee, hee⟩ : ∃ e, dstE (posD F x) (posD F z) = e := ⟨_, rfl⟩
              rw [hee] at HDE
              simp only [hee] at li
              obtain ⟨px, hpx⟩ : ∃ p, posD F x = p := ⟨_, rfl⟩
              obtain ⟨pz, hpz⟩ : ∃ p, posD F z = p := ⟨_, rfl⟩
              rw [hpx, hpz] at HSE HSN HDE
              have e6 : IntKind.i64.wrap (j : Int) = (j : Int) := IntWalk.i64_in _ (by omega)
              have e1 : IntKind.i64.wrap ((j : Int) + 1 - 1) = (j : Int) := by rw [show (j : Int) + 1 - 1 = (j : Int) by omega]; exact e6
              have e2 : ((j : Int) + 1).toNat = j + 1 := by omega
              have e3 : (j : Int) + 1 < (mp : Int) := by omega
              have e4 : (j : Int) < (mp : Int) := by omega
              have e5 : (0 : Int) ≤ (j : Int) + 1 := by omega
              clear y0 y0' z1 z2 z3 z1' z2' z3' hx hz hj1 hj2 hgp hgp' hee hpx hpz FR
              go_wp2_with fail
              refine wp_region_quiet_bel (by assumption) (by kernel_rfl) ?_
              repeat (quiet_step (first | (go_at_call 28; exact Calls.bel_of (li _))))
              refine wpQuiet_nil ?_
              rintro wz ⟨pw, hwz⟩
              have HBZ : Hid (Below w6.heap.size w6 wz) := by rw [hwz]; exact Below.then_ hb6.out pw.h
              clear hwz pw b1 s0 s1 li r0 r1 q1 e1 e6 hb6 hb1
              by_cases hv : (vldP px && vldP pz) = true
              · have HS2 := Lib.hid (HSE.out hv)
                have he0 : ee = 0 := by rw [HDE.out, if_pos hv]
                subst he0
                clear hv HSE HSN HDE
                go_wp2
                go_roundw
                case rel => exact ⟨j + 1, by go_num, by omega, HS2, HBZ⟩
                case measure => simp [intOf]; omega
              · have HS2 := Lib.hid (HSN.out hv)
                have he0 : ee = 1 := by rw [HDE.out, if_neg hv]
                subst he0
                have HP : Hid (OpenIs L F (bl a) (bl b) 1) := .inr (.inr (.inr ⟨HE.out, by rw [HN.out]; omega, HKN.out, .inl ⟨⟨B, HIN.out, HS2.out⟩, rfl⟩⟩))
                have HBW : Hid (Below w.heap.size w wz) := Below.then_ HB1.out (Below.then_ HB5.out (Below.then_ HB6.out HBZ.out))
                clear hv HSE HSN HDE
                go_wp2
                go_ret
                exact ⟨_, rfl, HP.out, HBW.out⟩
            · have HS2 : Hid (SegOk F B.pts B.pts.length) := fun j' h1 h2 => hsk.out j' h1 (by rw [HMP.out] at h1; omega)
              have HSG : Hid (∀ B' ∈ L.take (k + 1), SegOk F B'.pts B'.pts.length) := fun B' hB' => by
                rw [HTK.out, List.mem_append, List.mem_singleton] at hB'
                rcases hB' with h1 | rfl
                · exact hseg.out B' h1
                · exact HS2.out
              have HBK : Hid (Below w5.heap.size w5 wr) := Below.then_ HB6.out hb6.out
              have e3 : ¬ (j : Int) + 1 < (mp : Int) := by omega
              clear hb6 hseg hsk hb1
              go_wp2
              go_roundw
              case rel => exact ⟨k + 1, hlt, by go_num, HSG, HBK⟩
              case measure => simp [intOf]; omega
        · have HSG : Hid (∀ B ∈ L, SegOk F B.pts B.pts.length) := fun B hB => hseg.out B (by rw [List.take_of_length_le (by rw [HL.out]; omega)]; exact hB)
          have HP : Hid (OpenIs L F (bl a) (bl b) 0) := .inr (.inr (.inr ⟨HE.out, by rw [HN.out]; omega, HKN.out, .inr ⟨HSG.out, rfl⟩⟩))
          have HBW : Hid (Below w.heap.size w wr) := Below.then_ HB1.out (Below.then_ HB5.out hb5.out)
          clear hb5 hseg
          go_wp2
          go_ret
          exact ⟨_, rfl, HP.out, HBW.out⟩
end Go.Proofs.YtgnnblkpjankgaaGreatDoor
