/-
  Several texts as one.
-/
import Derived.Test.YtgmehlgfilpleaaGreatDoorBase
import Derived.Laws.Rows
import Derived.Deep.WholeRow
import Derived.Test.YtgmehlgfilpleaaGreatDoorMG13
import Derived.Test.YtgmehlgfilpleaaGreatDoorMG14
import Derived.Laws.BitsAllLaws
import Derived.Laws.BytesString
import Derived.Laws.Cells
import Derived.Lib.SliceRun
import Derived.Test.YtgmehlgfilpleaaGreatDoorMG06
import Derived.Laws.Tables
namespace Go.Proofs.YtgmehlgfilpleaaGreatDoor
open Go.RowKit
set_option linter.unusedVariables false
set_option linter.unusedSimpArgs false
section
variable {P : Program} {ops : Array Oper} {rest : List Oper} {o : Oper} {a : Act} {w : World} {Q : Exit → Act → World → Prop}
theorem wpList_load_wide (hgd : o.guard = none) (ty : TypeId) (x : Operand) (ho : o.op = .load ty x) (g k : Nat) (hx : a.eval x = .pointer (some ⟨g, k, none⟩)) (cs : List Value) (n : Nat) (hn : cs.length = n)
    (ha : (isAgg ty).run P w = .ok true w) (hs : (Go.sizeOf ty).run P w = .ok n w) (hc : ∀ j u, cs[j]? = some u → w.cell? ⟨g, k + j, none⟩ = some u)
    (h : wpList P ops Q rest (a.put o.dst (.agg cs.toArray)) w) : wpList P ops Q (o :: rest) a w := by
  have hl : (loadCells ⟨g, k, none⟩ cs.length).run P w = .ok cs.toArray w := run_loadCells_list (P := P) w ⟨g, k, none⟩ cs (fun j v hv => by
    have hadd : (⟨g, k, none⟩ : Addr).add j = ⟨g, k + j, none⟩ := by unfold Addr.add; split <;> simp_all
    rw [hadd]; exact hc j v hv)
  rw [hn] at hl
  have hlv : (loadVar ty ⟨g, k, none⟩).run P w = .ok (.agg cs.toArray) w := by
    simp [loadVar, Sem.run_bind, ha, hs, hl]
  refine wpList_plain hgd fun _ hK => ?_
  unfold Oper.wp execOp
  simp only [ho, hx, Instr.loadAt, Instr.sureAddr, Sem.run_bind, Sem.run_pure, Result.andThen_ok, hlv]
  exact hK _ _ h
theorem wpList_store_last (W : World) (old : Array Value) (hgd : o.guard = none) (ty : TypeId) (x y : Operand) (ho : o.op = .store ty x y) (hx : a.eval x = .pointer (some ⟨W.heap.size, 0, none⟩)) (cs : List Value) (hy : a.eval y = .agg cs.toArray)
    (hi : (P.info? ty).map (·.size) = some cs.length) (hold : old.size = cs.length) (h1 : ∀ u ∈ cs, u.oneCell' = true)
    (h : wpList P ops Q rest (a.put o.dst undef) (W.alloc (.cells cs.toArray ty))) : wpList P ops Q (o :: rest) a (W.alloc (.cells old ty)) := by
  refine wpList_plain hgd fun _ hK => ?_
  unfold Oper.wp execOp
  have := run_storeAt_new (P := P) W ty old cs.toArray (by simpa using hi) (by simpa using hold) (by simpa using h1)
  simp only [ho, hx, hy, Sem.run_bind, Sem.run_pure, Result.andThen_ok, this]
  exact hK _ _ h
end
theorem flatC_at {α : Type} (cf : α → List Value) (k : Nat) (hcf : ∀ a, (cf a).length = k) : ∀ (l : List α) (i : Nat) (hi : i < l.length) (j : Nat), j < k → (l.flatMap cf)[i * k + j]? = (cf l[i])[j]?
  | a :: l, 0, _, j, hj => by
    rw [List.flatMap_cons, Nat.zero_mul, Nat.zero_add, List.getElem?_append_left (by rw [hcf]; exact hj)]; rfl
  | a :: l, i + 1, hi, j, hj => by
    rw [List.flatMap_cons, List.getElem?_append_right (by rw [hcf, Nat.succ_mul]; omega), hcf, show (i + 1) * k + j - k = i * k + j by rw [Nat.succ_mul]; omega]
    exact flatC_at cf k hcf l i (by simpa using hi) j hj
theorem flatC_len {α : Type} (cf : α → List Value) (k : Nat) (hcf : ∀ a, (cf a).length = k) : ∀ l : List α, (l.flatMap cf).length = l.length * k
  | [] => by simp
  | a :: l => by rw [List.flatMap_cons, List.length_append, hcf, flatC_len cf k hcf l, List.length_cons, Nat.succ_mul]; omega
theorem flatC_one {α : Type} {cf : α → List Value} (h : ∀ a, ∀ u ∈ cf a, u.oneCell' = true) (l : List α) : ∀ u ∈ l.flatMap cf, u.oneCell' = true := by
  intro u hu
  obtain ⟨a, _, ha⟩ := List.mem_flatMap.1 hu
  exact h a u ha
theorem Rd.chunk {α : Type} {w : World} {k : Nat} {v : Value} {l : List α} {cf : α → List Value} (h : Rd w k v l.length (l.flatMap cf)) (hcf : ∀ a, (cf a).length = k) {i : Nat} (hi : i < l.length) :
    ∃ g o c, v = .slice (some ⟨g, o, none⟩) l.length c ∧ l.length ≤ c ∧ c ≤ maxLen ∧ g < w.heap.size ∧ ∀ j u, (cf l[i])[j]? = some u → w.cell? ⟨g, o + i * k + j, none⟩ = some u := by
  obtain ⟨hl, A, c, rfl, hc, hm, hx⟩ := h
  obtain ⟨g, o, rfl, hg, hcell⟩ := hx (by omega)
  refine ⟨g, o, c, rfl, hc, hm, hg, fun j u hu => ?_⟩
  have hj : j < k := by rw [← hcf l[i]]; exact (List.getElem?_eq_some_iff.1 hu).1
  have h2 := flatC_at cf k hcf l i hi j hj
  rw [hu] at h2
  have h3 := hcell _ _ h2
  rw [show o + (i * k + j) = o + i * k + j by omega] at h3
  exact h3
theorem lgC_len (l : Lg) : (lgc l).length = 13 := rfl
theorem paC_len (p : Value × Pa) : (pac p).length = 3 := rfl
theorem prC_len (p : Value × Prc) : (prc p).length = 4 := rfl
theorem awC_len (p : Value × AwD) : (awc p).length = 2 := rfl
theorem lgc_one (l : Lg) : ∀ u ∈ lgc l, u.oneCell' = true := by
  intro u hu
  unfold lgc at hu
  simp only [List.mem_cons, List.not_mem_nil, or_false] at hu
  rcases hu with rfl | rfl | rfl | rfl | rfl | rfl | rfl | rfl | rfl | rfl | rfl | rfl | rfl <;> rfl
theorem Rd.one {w : World} {k n : Nat} {v : Value} {xs : List Value} (h : Rd w k v n xs) : v.oneCell' = true := by obtain ⟨A, c, rfl, _, _⟩ := h.form; rfl
/-- a leg in a row -/
def LgAt (w : World) (g o : Nat) (l : Lg) : Prop := ∀ j u, (lgc l)[j]? = some u → w.cell? ⟨g, o + j, none⟩ = some u
theorem LgsR.at_ {w : World} {v : Value} {l : List Lg} (h : LgsR w v l) {i : Nat} (hi : i < l.length) :
    ∃ g o c, v = .slice (some ⟨g, o, none⟩) l.length c ∧ g < w.heap.size ∧ LgAt w g (o + i * 13) l[i] ∧ LgOk l[i] := by
  obtain ⟨g, o, c, hv, _, _, hg, hx⟩ := h.1.chunk lgC_len hi
  exact ⟨g, o, c, hv, hg, hx, h.2 _ (List.getElem_mem hi)⟩
theorem LgsR.form {w : World} {v : Value} {l : List Lg} (h : LgsR w v l) : ∃ A c, v = .slice A l.length c ∧ l.length ≤ c ∧ c ≤ maxLen := h.1.form
/-- a part in a row -/
structure PaAt (w : World) (g o : Nat) (lv : Value) (x : Pa) : Prop where
  c0 : w.cell? ⟨g, o, none⟩ = some (.int .u8 (x.kd : Int))
  c1 : w.cell? ⟨g, o + 1, none⟩ = some (.string (sb x.nm))
  c2 : w.cell? ⟨g, o + 2, none⟩ = some lv
theorem PasR.form {w : World} {v : Value} {l : List Pa} (h : PasR w v l) : ∃ A c, v = .slice A l.length c ∧ l.length ≤ c ∧ c ≤ maxLen := by
  obtain ⟨L, rfl, h2, _⟩ := h
  rw [List.length_map]; exact h2.form
theorem PasR.at_ {w : World} {v : Value} {l : List Pa} (h : PasR w v l) {i : Nat} (hi : i < l.length) :
    ∃ g o c lv, v = .slice (some ⟨g, o, none⟩) l.length c ∧ g < w.heap.size ∧ PaAt w g (o + i * 3) lv l[i] ∧ l[i].nm.length ≤ maxLen ∧ l[i].kd < 256 ∧ LgsR w lv l[i].lg := by
  obtain ⟨L, rfl, h2, h3⟩ := h
  rw [List.length_map] at hi
  obtain ⟨g, o, c, hv, _, _, hg, hx⟩ := h2.chunk paC_len hi
  have h4 := h3 _ (List.getElem_mem hi)
  rw [List.length_map, List.getElem_map]
  exact ⟨g, o, c, L[i].1, hv, hg, ⟨hx 0 _ rfl, hx 1 _ rfl, hx 2 _ rfl⟩, h4.1, h4.2.1, h4.2.2⟩
theorem PaAt.below {w w' : World} {g o : Nat} {lv : Value} {x : Pa} (h : PaAt w g o lv x) (hg : g < w.heap.size) (hb : Below w.heap.size w w') : PaAt w' g o lv x :=
  ⟨(hb.cell (p := ⟨g, o, none⟩) hg).trans h.c0, (hb.cell (p := ⟨g, o + 1, none⟩) hg).trans h.c1, (hb.cell (p := ⟨g, o + 2, none⟩) hg).trans h.c2⟩
/-- a procedure in a row -/
structure PrAt (w : World) (g o : Nat) (pv : Value) (x : Prc) : Prop where
  c0 : w.cell? ⟨g, o, none⟩ = some (.string (sb x.ap))
  c1 : w.cell? ⟨g, o + 1, none⟩ = some (.string (sb x.nm))
  c2 : w.cell? ⟨g, o + 2, none⟩ = some (.int .u8 (x.kd : Int))
  c3 : w.cell? ⟨g, o + 3, none⟩ = some pv
theorem PrcsR.form {w : World} {v : Value} {l : List Prc} (h : PrcsR w v l) : ∃ A c, v = .slice A l.length c ∧ l.length ≤ c ∧ c ≤ maxLen := by
  obtain ⟨L, rfl, h2, _⟩ := h
  rw [List.length_map]; exact h2.form
theorem PrcsR.at_ {w : World} {v : Value} {l : List Prc} (h : PrcsR w v l) {i : Nat} (hi : i < l.length) :
    ∃ g o c pv, v = .slice (some ⟨g, o, none⟩) l.length c ∧ g < w.heap.size ∧ PrAt w g (o + i * 4) pv l[i] ∧ l[i].ap.length ≤ maxLen ∧ l[i].nm.length ≤ maxLen ∧ l[i].kd < 256 ∧ PasR w pv l[i].pa := by
  obtain ⟨L, rfl, h2, h3⟩ := h
  rw [List.length_map] at hi
  obtain ⟨g, o, c, hv, _, _, hg, hx⟩ := h2.chunk prC_len hi
  have h4 := h3 _ (List.getElem_mem hi)
  rw [List.length_map, List.getElem_map]
  exact ⟨g, o, c, L[i].1, hv, hg, ⟨hx 0 _ rfl, hx 1 _ rfl, hx 2 _ rfl, hx 3 _ rfl⟩, h4.1, h4.2.1, h4.2.2.1, h4.2.2.2⟩
theorem PrAt.below {w w' : World} {g o : Nat} {pv : Value} {x : Prc} (h : PrAt w g o pv x) (hg : g < w.heap.size) (hb : Below w.heap.size w w') : PrAt w' g o pv x :=
  ⟨(hb.cell (p := ⟨g, o, none⟩) hg).trans h.c0, (hb.cell (p := ⟨g, o + 1, none⟩) hg).trans h.c1, (hb.cell (p := ⟨g, o + 2, none⟩) hg).trans h.c2, (hb.cell (p := ⟨g, o + 3, none⟩) hg).trans h.c3⟩
/-- an airway in a row -/
structure AwAt (w : World) (g o : Nat) (av : Value) (x : AwD) : Prop where
  c0 : w.cell? ⟨g, o, none⟩ = some (.string (sb x.nm))
  c1 : w.cell? ⟨g, o + 1, none⟩ = some av
theorem AwsD.form {w : World} {v : Value} {l : List AwD} (h : AwsD w v l) : ∃ A c, v = .slice A l.length c ∧ l.length ≤ c ∧ c ≤ maxLen := by
  obtain ⟨L, rfl, h2, _⟩ := h
  rw [List.length_map]; exact h2.form
theorem AwsD.at_ {w : World} {v : Value} {l : List AwD} (h : AwsD w v l) {i : Nat} (hi : i < l.length) :
    ∃ g o c av, v = .slice (some ⟨g, o, none⟩) l.length c ∧ g < w.heap.size ∧ AwAt w g (o + i * 2) av l[i] ∧ l[i].nm.length ≤ maxLen ∧ PtsR w av l[i].ps := by
  obtain ⟨L, rfl, h2, h3⟩ := h
  rw [List.length_map] at hi
  obtain ⟨g, o, c, hv, _, _, hg, hx⟩ := h2.chunk awC_len hi
  have h4 := h3 _ (List.getElem_mem hi)
  rw [List.length_map, List.getElem_map]
  exact ⟨g, o, c, L[i].1, hv, hg, ⟨hx 0 _ rfl, hx 1 _ rfl⟩, h4.1, h4.2⟩
theorem AwAt.below {w w' : World} {g o : Nat} {av : Value} {x : AwD} (h : AwAt w g o av x) (hg : g < w.heap.size) (hb : Below w.heap.size w w') : AwAt w' g o av x :=
  ⟨(hb.cell (p := ⟨g, o, none⟩) hg).trans h.c0, (hb.cell (p := ⟨g, o + 1, none⟩) hg).trans h.c1⟩
theorem aggLegD (w : World) : (isAgg 65).run Tryz.prog w = .ok true w := by kernel_rfl
theorem sizeLegD (w : World) : (Go.sizeOf 65).run Tryz.prog w = .ok 13 w := by kernel_rfl
theorem infoLegSD : (Tryz.prog.info? 65).map (·.size) = some 13 := by kernel_rfl
/-- what a reader that failed leaves -/
theorem RdP.fail {g gb ob c st : Nat} {bs : List UInt8} {a : Nat} {b : Bool} {w : World} (h : RdP g gb ob c st bs (a, b) w) : RdPTo g gb ob c st bs (a, true) w (w.setCell ⟨g, 3, none⟩ (.bool true)) :=
  ⟨h.to (frm_set w g 3 _) (h.bx.set 3 _) h.at_, frm_set w g 3 _⟩
theorem RdP.on {g gb ob c st : Nat} {bs : List UInt8} {a n : Nat} {w : World} (h : RdP g gb ob c st bs (a, false) w) (hn : a + n ≤ st) : RdPTo g gb ob c st bs (a + n, false) w (w.setCell ⟨g, 1, none⟩ (.int .i64 ((a + n : Nat) : Int))) :=
  ⟨h.to (frm_set w g 1 _) (h.bx.set 1 _) hn, frm_set w g 1 _⟩
theorem BsA.news {w W : World} {g o : Nat} {bs : List UInt8} (h : BsA w g o bs) (hb : Below w.heap.size w W) : ∀ j u, (bs.map u8c)[j]? = some u → W.cell? ((⟨g, o, none⟩ : Addr).add j) = some u := by
  intro j u hu
  rw [List.getElem?_map] at hu
  cases hj : bs[j]? with
  | none => rw [hj] at hu; cases hu
  | some b =>
    rw [hj] at hu
    injection hu with hu
    rw [Addr.add_lit, ← hu]
    exact (h.below hb).2 j b hj
/-- bytes that a call has made -/
def BsNew (bs : List UInt8) (w : World) (v : Value) (w' : World) : Prop := ∃ gb c, v = .slice (some ⟨gb, 0, none⟩) bs.length c ∧ bs.length ≤ c ∧ c ≤ maxLen ∧ w.heap.size ≤ gb ∧ BsA w' gb 0 bs ∧ Below w.heap.size w w'
theorem BsNew.of_own {bs : List UInt8} {w w' : World} {g cap : Nat} (h : w'.ownsRow w.heap.size 5 1 (.slice (some ⟨g, 0, none⟩) bs.length cap) bs.length (bs.map u8c)) (hb : Below w.heap.size w w') : BsNew bs w (.slice (some ⟨g, 0, none⟩) bs.length cap) w' := by
  have hlt := h.lt g rfl
  have hcs := h.cells (g := g) rfl
  obtain ⟨_, ⟨h2, _⟩ | ⟨b, cap', cur, hv, _, _, h3, h4, _⟩⟩ := h
  · cases h2
  · injection hv with e1 e2 e3
    subst e3
    refine ⟨g, cap, rfl, by omega, h4, hlt.1, ⟨hlt.2, fun j b hb => ?_⟩, hb⟩
    have := hcs j (u8c b) (by rw [List.getElem?_map, hb]; rfl)
    rwa [Addr.add_lit] at this
/-- cells stored one behind the other -/
def setAll (w : World) (b : Nat) : Nat → List Value → World
  | _, [] => w
  | k, v :: vs => setAll (w.setCell ⟨b, k, none⟩ v) b (k + 1) vs
def setArr (cs : Array Value) : Nat → List Value → Array Value
  | _, [] => cs
  | k, v :: vs => setArr (cs.setIfInBounds k v) (k + 1) vs
theorem setAll_frm (b : Nat) : ∀ (vs : List Value) (k : Nat) (w : World), Frm (· = b) w (setAll w b k vs)
  | [], _, w => Frm.refl _ w
  | v :: vs, k, w => (frm_set w b k v).trans (setAll_frm b vs (k + 1) _)
theorem setAll_bx {b : Nat} {t : TypeId} : ∀ (vs : List Value) (k : Nat) (w : World) (cs : Array Value), Bx b cs t w → Bx b (setArr cs k vs) t (setAll w b k vs)
  | [], _, _, _, h => h
  | v :: vs, k, w, cs, h => setAll_bx vs (k + 1) _ _ (h.set k v)
/-- a reader, and the box of a result -/
structure ImB (g gb ob c st : Nat) (bs : List UInt8) (q : Nat) (cs : Array Value) (T : TypeId) (s : RS) (w w' : World) : Prop where
  r : RdPTo g gb ob c st bs s w w'
  x : Bx q cs T w'
  ne : q ≠ g
  nb : gb ≠ q
section
variable {g gb ob c st q : Nat} {bs : List UInt8} {cs : Array Value} {T : TypeId} {s s' : RS} {w w1 w2 : World}
theorem ImB.then_ (h : ImB g gb ob c st bs q cs T s w w1) (k : RdPTo g gb ob c st bs s' w1 w2) : ImB g gb ob c st bs q cs T s' w w2 :=
  ⟨h.r.then_ k, (k.f.block q h.x.lt h.ne).trans h.x, h.ne, h.nb⟩
theorem ImB.fin (h : ImB g gb ob c st bs q cs T s w w1) (vs : List Value) (hs : setArr cs 0 vs = vs.toArray) (hq : w.heap.size = q) : Bx q vs.toArray T (setAll w1 q 0 vs) ∧ RdPTo g gb ob c st bs s w (setAll w1 q 0 vs) := by
  have hf := setAll_frm q vs 0 w1
  have hx := setAll_bx vs 0 w1 cs h.x
  rw [hs] at hx
  refine ⟨hx, h.r.r.keep hf (fun e => h.ne e.symm) h.nb, ⟨hf.os.trans h.r.f.os, hf.tape.trans h.r.f.tape, hf.output.trans h.r.f.output, Nat.le_trans h.r.f.size hf.size, fun k hk hn => ?_⟩⟩
  exact (hf.block k (Nat.lt_of_lt_of_le hk h.r.f.size) (by omega)).trans (h.r.f.block k hk hn)
end
/-! ### lists -/
theorem own_form {base : Nat} {w : World} {e : TypeId} {size n : Nat} {v : Value} {xs : List Value} (h : w.ownsRow base e size v n xs) : ∃ A n' c', v = .slice A n' c' := by
  obtain ⟨_, ⟨rfl, _⟩ | ⟨b, cap, cur, rfl, _⟩⟩ := h
  · exact ⟨_, _, _, rfl⟩
  · exact ⟨_, _, _, rfl⟩
/-- the result's box is written whole -/
theorem ImB.row {g gb ob c st q : Nat} {bs : List UInt8} {cs : Array Value} {T : TypeId} {s : RS} {w w1 : World} (h : ImB g gb ob c st bs q cs T s w w1) (vs : Array Value) (hq : w.heap.size = q) : Bx q vs T (w1.setRow q vs) ∧ RdPTo g gb ob c st bs s w (w1.setRow q vs) := by
  have hx := setRow_heap w1 q cs vs T (0, 0) h.x
  have hf : Frm (· = q) w1 (w1.setRow q vs) := ⟨rfl, rfl, rfl, by simp [World.setRow], fun k hk hn => setRow_other w1 q k vs hn⟩
  refine ⟨hx, h.r.r.keep hf (fun e => h.ne e.symm) h.nb, ⟨hf.os.trans h.r.f.os, hf.tape.trans h.r.f.tape, hf.output.trans h.r.f.output, Nat.le_trans h.r.f.size hf.size, fun k hk hn => ?_⟩⟩
  exact (hf.block k (Nat.lt_of_lt_of_le hk h.r.f.size) (by omega)).trans (h.r.f.block k hk hn)
theorem Bx.l4 {b : Nat} {x0 x1 x2 x3 x4 x5 x6 x7 x8 x9 x10 x11 x12 : Value} {t : TypeId} {w : World} (h : Bx b #[x0, x1, x2, x3, x4, x5, x6, x7, x8, x9, x10, x11, x12] t w) (u : Value) : Bx b #[x0, x1, x2, x3, u, x5, x6, x7, x8, x9, x10, x11, x12] t (w.setCell ⟨b, 4, none⟩ u) := h.set 4 u
theorem Bx.l5 {b : Nat} {x0 x1 x2 x3 x4 x5 x6 x7 x8 x9 x10 x11 x12 : Value} {t : TypeId} {w : World} (h : Bx b #[x0, x1, x2, x3, x4, x5, x6, x7, x8, x9, x10, x11, x12] t w) (u : Value) : Bx b #[x0, x1, x2, x3, x4, u, x6, x7, x8, x9, x10, x11, x12] t (w.setCell ⟨b, 5, none⟩ u) := h.set 5 u
theorem Bx.l6 {b : Nat} {x0 x1 x2 x3 x4 x5 x6 x7 x8 x9 x10 x11 x12 : Value} {t : TypeId} {w : World} (h : Bx b #[x0, x1, x2, x3, x4, x5, x6, x7, x8, x9, x10, x11, x12] t w) (u : Value) : Bx b #[x0, x1, x2, x3, x4, x5, u, x7, x8, x9, x10, x11, x12] t (w.setCell ⟨b, 6, none⟩ u) := h.set 6 u
theorem Bx.l7 {b : Nat} {x0 x1 x2 x3 x4 x5 x6 x7 x8 x9 x10 x11 x12 : Value} {t : TypeId} {w : World} (h : Bx b #[x0, x1, x2, x3, x4, x5, x6, x7, x8, x9, x10, x11, x12] t w) (u : Value) : Bx b #[x0, x1, x2, x3, x4, x5, x6, u, x8, x9, x10, x11, x12] t (w.setCell ⟨b, 7, none⟩ u) := h.set 7 u
theorem Bx.l8 {b : Nat} {x0 x1 x2 x3 x4 x5 x6 x7 x8 x9 x10 x11 x12 : Value} {t : TypeId} {w : World} (h : Bx b #[x0, x1, x2, x3, x4, x5, x6, x7, x8, x9, x10, x11, x12] t w) (u : Value) : Bx b #[x0, x1, x2, x3, x4, x5, x6, x7, u, x9, x10, x11, x12] t (w.setCell ⟨b, 8, none⟩ u) := h.set 8 u
theorem Bx.l9 {b : Nat} {x0 x1 x2 x3 x4 x5 x6 x7 x8 x9 x10 x11 x12 : Value} {t : TypeId} {w : World} (h : Bx b #[x0, x1, x2, x3, x4, x5, x6, x7, x8, x9, x10, x11, x12] t w) (u : Value) : Bx b #[x0, x1, x2, x3, x4, x5, x6, x7, x8, u, x10, x11, x12] t (w.setCell ⟨b, 9, none⟩ u) := h.set 9 u
theorem Bx.l10 {b : Nat} {x0 x1 x2 x3 x4 x5 x6 x7 x8 x9 x10 x11 x12 : Value} {t : TypeId} {w : World} (h : Bx b #[x0, x1, x2, x3, x4, x5, x6, x7, x8, x9, x10, x11, x12] t w) (u : Value) : Bx b #[x0, x1, x2, x3, x4, x5, x6, x7, x8, x9, u, x11, x12] t (w.setCell ⟨b, 10, none⟩ u) := h.set 10 u
theorem Bx.l11 {b : Nat} {x0 x1 x2 x3 x4 x5 x6 x7 x8 x9 x10 x11 x12 : Value} {t : TypeId} {w : World} (h : Bx b #[x0, x1, x2, x3, x4, x5, x6, x7, x8, x9, x10, x11, x12] t w) (u : Value) : Bx b #[x0, x1, x2, x3, x4, x5, x6, x7, x8, x9, x10, u, x12] t (w.setCell ⟨b, 11, none⟩ u) := h.set 11 u
theorem Bx.l12 {b : Nat} {x0 x1 x2 x3 x4 x5 x6 x7 x8 x9 x10 x11 x12 : Value} {t : TypeId} {w : World} (h : Bx b #[x0, x1, x2, x3, x4, x5, x6, x7, x8, x9, x10, x11, x12] t w) (u : Value) : Bx b #[x0, x1, x2, x3, x4, x5, x6, x7, x8, x9, x10, x11, u] t (w.setCell ⟨b, 12, none⟩ u) := h.set 12 u
theorem RdPTo.box {g gb ob c st q : Nat} {bs : List UInt8} {s : RS} {cs : Array Value} {T : TypeId} {w1 w2 : World} (k : RdPTo g gb ob c st bs s w1 w2) (hx : Bx q cs T w1) (hne : q ≠ g) : Bx q cs T w2 := (k.f.block q hx.lt hne).trans hx
theorem ImB.alloc {g gb ob c st q : Nat} {bs : List UInt8} {cs : Array Value} {T : TypeId} {s : RS} {w w1 : World} (h : ImB g gb ob c st bs q cs T s w w1) (o : Obj) : ImB g gb ob c st bs q cs T s w (w1.alloc o) := by
  have hb := (Below.refl w1.heap.size w1).alloc (Nat.le_refl _) o
  exact ⟨⟨h.r.r.below hb, h.r.f.trans (Frm.of_below hb)⟩, h.x.via hb, h.ne, h.nb⟩
/-- another box is written -/
theorem ImB.put {g gb ob c st q b : Nat} {bs : List UInt8} {cs : Array Value} {T : TypeId} {s : RS} {w w1 : World} (h : ImB g gb ob c st bs q cs T s w w1) (hb : w.heap.size ≤ b) (h1 : b ≠ g) (h2 : b ≠ gb) (h3 : b ≠ q) (j : Nat) (u : Value) : ImB g gb ob c st bs q cs T s w (w1.setCell ⟨b, j, none⟩ u) := by
  have hf := frm_set w1 b j u
  refine ⟨⟨h.r.r.keep hf (fun e => h1 e.symm) (fun e => h2 e.symm), ⟨hf.os.trans h.r.f.os, hf.tape.trans h.r.f.tape, hf.output.trans h.r.f.output, Nat.le_trans h.r.f.size hf.size, fun k hk hn => ?_⟩⟩, (hf.block q h.x.lt (fun e => h3 e.symm)).trans h.x, h.ne, h.nb⟩
  exact (hf.block k (Nat.lt_of_lt_of_le hk h.r.f.size) (by omega)).trans (h.r.f.block k hk hn)
def fourC (x : Int) : Array Value := #[.int .u8 (x % 256), .int .u8 (x / 256 % 256), .int .u8 (x / 65536 % 256), .int .u8 (x / 16777216 % 256)]
/-- while the four bytes are compared -/
structure Cmp4 (g o q : Nat) (bs : List UInt8) (S : Int) (w wr : World) : Prop where
  b : BsA wr g o bs
  x : Bx q (fourC S) 5 wr
  e : Below w.heap.size w wr
theorem Cmp4.drewN {g o q : Nat} {bs : List UInt8} {S : Int} {w wr : World} (h : Cmp4 g o q bs S w wr) (n : Nat) : Cmp4 g o q bs S w (wr.drewN n) := ⟨h.b.below (below_drewN' (Below.refl _ _) n), h.x, below_drewN' h.e n⟩
end Go.Proofs.YtgmehlgfilpleaaGreatDoor
