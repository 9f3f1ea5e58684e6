/-
  Several texts as one.
  Databases: plain, and in memory.
  The elements of a database's lists in memory.
  Contract: strings are written into an image.
  Plain: bytes that agree with an image as far as both go, and have another length, have no image's form.
  Plain words: the bytes of a database's image; the copy of a database with few elements.
-/
import Derived.Test.YtecklnobgfahfaaGreatDoorMG13
import Derived.Test.YtecklnobgfahfaaGreatDoorLegC
import Derived.Test.YtecklnobgfahfaaGreatDoorMG02
import Derived.Test.YtecklnobgfahfaaGreatDoorMG03
import Derived.Test.YtecklnobgfahfaaGreatDoorMG07
import Derived.Test.YtecklnobgfahfaaGreatDoorMG06
import Derived.Lib.AppendStr
import Derived.Test.YtecklnobgfahfaaGreatDoorImY
namespace Go.Proofs.YtecklnobgfahfaaGreatDoor
open Go.RowKit
set_option linter.unusedVariables false
set_option linter.unusedSimpArgs false
structure Pa where
  kd : Nat
  nm : List UInt8
  lg : List Lg
structure Prc where
  ap : List UInt8
  nm : List UInt8
  kd : Nat
  pa : List Pa
structure AwD where
  nm : List UInt8
  ps : List Pt
structure DbD where
  hd : ImHd
  fx : List Fx
  aw : List AwD
  pr : List Prc
def pac (p : Value × Pa) : List Value := [.int .u8 (p.2.kd : Int), .string (sb p.2.nm), p.1]
def prc (p : Value × Prc) : List Value := [.string (sb p.2.ap), .string (sb p.2.nm), .int .u8 (p.2.kd : Int), p.1]
def awc (p : Value × AwD) : List Value := [.string (sb p.2.nm), p.1]
def PtOk (p : Pt) : Prop := p.ref.length ≤ maxLen ∧ p.dir < 256
def FxOk (f : Fx) : Prop := f.id.length ≤ maxLen ∧ f.rg.length ≤ maxLen ∧ f.kd < 256
def LgsR (w : World) (v : Value) (l : List Lg) : Prop := Rd w 13 v l.length (l.flatMap lgc) ∧ ∀ x ∈ l, LgOk x
def PaOk (w : World) (p : Value × Pa) : Prop := p.2.nm.length ≤ maxLen ∧ p.2.kd < 256 ∧ LgsR w p.1 p.2.lg
def PasR (w : World) (v : Value) (l : List Pa) : Prop := ∃ L : List (Value × Pa), l = L.map (·.2) ∧ Rd w 3 v L.length (L.flatMap pac) ∧ ∀ x ∈ L, PaOk w x
def PrcOk (w : World) (p : Value × Prc) : Prop := p.2.ap.length ≤ maxLen ∧ p.2.nm.length ≤ maxLen ∧ p.2.kd < 256 ∧ PasR w p.1 p.2.pa
def PrcsR (w : World) (v : Value) (l : List Prc) : Prop := ∃ L : List (Value × Prc), l = L.map (·.2) ∧ Rd w 4 v L.length (L.flatMap prc) ∧ ∀ x ∈ L, PrcOk w x
def AwOk (w : World) (p : Value × AwD) : Prop := p.2.nm.length ≤ maxLen ∧ PtsR w p.1 p.2.ps
def AwsD (w : World) (v : Value) (l : List AwD) : Prop := ∃ L : List (Value × AwD), l = L.map (·.2) ∧ Rd w 2 v L.length (L.flatMap awc) ∧ ∀ x ∈ L, AwOk w x
def FxsD (w : World) (v : Value) (l : List Fx) : Prop := Rd w 7 v l.length (l.flatMap fxc) ∧ ∀ x ∈ l, FxOk x
def hdD (h : ImHd) : List Value := [.string (sb h.nm), .int .i64 h.cy, .int .i64 h.fr, .int .i64 h.tu, .int .i64 h.la, .int .i64 h.lo]
def dbC (h : ImHd) (f a p : Value) : List Value := [.string (sb h.nm), .int .i64 h.cy, .int .i64 h.fr, .int .i64 h.tu, .int .i64 h.la, .int .i64 h.lo, f, a, p]
/-- a database in memory -/
structure DbV (w : World) (f a p : Value) (D : DbD) : Prop where
  nm : D.hd.nm.length ≤ maxLen
  fx : FxsD w f D.fx
  aw : AwsD w a D.aw
  pr : PrcsR w p D.pr
section
variable {w w' : World}
theorem LgsR.below {v : Value} {l : List Lg} (h : LgsR w v l) (hb : Below w.heap.size w w') : LgsR w' v l := ⟨h.1.below hb, h.2⟩
theorem PasR.below {v : Value} {l : List Pa} (h : PasR w v l) (hb : Below w.heap.size w w') : PasR w' v l := by
  obtain ⟨L, h1, h2, h3⟩ := h
  exact ⟨L, h1, h2.below hb, fun x hx => ⟨(h3 x hx).1, (h3 x hx).2.1, (h3 x hx).2.2.below hb⟩⟩
theorem PrcsR.below {v : Value} {l : List Prc} (h : PrcsR w v l) (hb : Below w.heap.size w w') : PrcsR w' v l := by
  obtain ⟨L, h1, h2, h3⟩ := h
  exact ⟨L, h1, h2.below hb, fun x hx => ⟨(h3 x hx).1, (h3 x hx).2.1, (h3 x hx).2.2.1, (h3 x hx).2.2.2.below hb⟩⟩
theorem AwsD.below {v : Value} {l : List AwD} (h : AwsD w v l) (hb : Below w.heap.size w w') : AwsD w' v l := by
  obtain ⟨L, h1, h2, h3⟩ := h
  exact ⟨L, h1, h2.below hb, fun x hx => ⟨(h3 x hx).1, (h3 x hx).2.below hb⟩⟩
theorem FxsD.below {v : Value} {l : List Fx} (h : FxsD w v l) (hb : Below w.heap.size w w') : FxsD w' v l := ⟨h.1.below hb, h.2⟩
theorem DbV.below {f a p : Value} {D : DbD} (h : DbV w f a p D) (hb : Below w.heap.size w w') : DbV w' f a p D := ⟨h.nm, h.fx.below hb, h.aw.below hb, h.pr.below hb⟩
end
end Go.Proofs.YtecklnobgfahfaaGreatDoor
namespace Go.Proofs.YtecklnobgfahfaaGreatDoor
open Go.RowKit
set_option linter.unusedVariables false
set_option linter.unusedSimpArgs false
theorem flatC_at {α : Type} (cf : α → List Value) (k : Nat) (hcf : ∀ a, (cf a).length = k) : ∀ (l : List α) (i : Nat) (hi : i < l.length) (j : Nat), j < k → (l.flatMap cf)[i * k + j]? = (cf l[i])[j]?
  | a :: l, 0, _, j, hj => by
    rw [List.flatMap_cons, Nat.zero_mul, Nat.zero_add, List.getElem?_append_left (by rw [hcf]; exact hj)]; rfl
  | a :: l, i + 1, hi, j, hj => by
    rw [List.flatMap_cons, List.getElem?_append_right (by rw [hcf, Nat.succ_mul]; omega), hcf, show (i + 1) * k + j - k = i * k + j by rw [Nat.succ_mul]; omega]
    exact flatC_at cf k hcf l i (by simpa using hi) j hj
theorem flatC_len {α : Type} (cf : α → List Value) (k : Nat) (hcf : ∀ a, (cf a).length = k) : ∀ l : List α, (l.flatMap cf).length = l.length * k
  | [] => by simp
  | a :: l => by rw [List.flatMap_cons, List.length_append, hcf, flatC_len cf k hcf l, List.length_cons, Nat.succ_mul]; omega
theorem flatC_one {α : Type} {cf : α → List Value} (h : ∀ a, ∀ u ∈ cf a, u.oneCell' = true) (l : List α) : ∀ u ∈ l.flatMap cf, u.oneCell' = true := by
  intro u hu
  obtain ⟨a, _, ha⟩ := List.mem_flatMap.1 hu
  exact h a u ha
theorem Rd.chunk {α : Type} {w : World} {k : Nat} {v : Value} {l : List α} {cf : α → List Value} (h : Rd w k v l.length (l.flatMap cf)) (hcf : ∀ a, (cf a).length = k) {i : Nat} (hi : i < l.length) :
    ∃ g o c, v = .slice (some ⟨g, o, none⟩) l.length c ∧ l.length ≤ c ∧ c ≤ maxLen ∧ g < w.heap.size ∧ ∀ j u, (cf l[i])[j]? = some u → w.cell? ⟨g, o + i * k + j, none⟩ = some u := by
  obtain ⟨hl, A, c, rfl, hc, hm, hx⟩ := h
  obtain ⟨g, o, rfl, hg, hcell⟩ := hx (by omega)
  refine ⟨g, o, c, rfl, hc, hm, hg, fun j u hu => ?_⟩
  have hj : j < k := by rw [← hcf l[i]]; exact (List.getElem?_eq_some_iff.1 hu).1
  have h2 := flatC_at cf k hcf l i hi j hj
  rw [hu] at h2
  have h3 := hcell _ _ h2
  rw [show o + (i * k + j) = o + i * k + j by omega] at h3
  exact h3
theorem lgC_len (l : Lg) : (lgc l).length = 13 := rfl
theorem paC_len (p : Value × Pa) : (pac p).length = 3 := rfl
theorem prC_len (p : Value × Prc) : (prc p).length = 4 := rfl
theorem awC_len (p : Value × AwD) : (awc p).length = 2 := rfl
theorem lgc_one (l : Lg) : ∀ u ∈ lgc l, u.oneCell' = true := by
  intro u hu
  unfold lgc at hu
  simp only [List.mem_cons, List.not_mem_nil, or_false] at hu
  rcases hu with rfl | rfl | rfl | rfl | rfl | rfl | rfl | rfl | rfl | rfl | rfl | rfl | rfl <;> rfl
theorem Rd.one {w : World} {k n : Nat} {v : Value} {xs : List Value} (h : Rd w k v n xs) : v.oneCell' = true := by obtain ⟨A, c, rfl, _, _⟩ := h.form; rfl
/-- a leg in a row -/
def LgAt (w : World) (g o : Nat) (l : Lg) : Prop := ∀ j u, (lgc l)[j]? = some u → w.cell? ⟨g, o + j, none⟩ = some u
theorem LgsR.at_ {w : World} {v : Value} {l : List Lg} (h : LgsR w v l) {i : Nat} (hi : i < l.length) :
    ∃ g o c, v = .slice (some ⟨g, o, none⟩) l.length c ∧ g < w.heap.size ∧ LgAt w g (o + i * 13) l[i] ∧ LgOk l[i] := by
  obtain ⟨g, o, c, hv, _, _, hg, hx⟩ := h.1.chunk lgC_len hi
  exact ⟨g, o, c, hv, hg, hx, h.2 _ (List.getElem_mem hi)⟩
theorem LgsR.form {w : World} {v : Value} {l : List Lg} (h : LgsR w v l) : ∃ A c, v = .slice A l.length c ∧ l.length ≤ c ∧ c ≤ maxLen := h.1.form
/-- a part in a row -/
structure PaAt (w : World) (g o : Nat) (lv : Value) (x : Pa) : Prop where
  c0 : w.cell? ⟨g, o, none⟩ = some (.int .u8 (x.kd : Int))
  c1 : w.cell? ⟨g, o + 1, none⟩ = some (.string (sb x.nm))
  c2 : w.cell? ⟨g, o + 2, none⟩ = some lv
theorem PasR.form {w : World} {v : Value} {l : List Pa} (h : PasR w v l) : ∃ A c, v = .slice A l.length c ∧ l.length ≤ c ∧ c ≤ maxLen := by
  obtain ⟨L, rfl, h2, _⟩ := h
  rw [List.length_map]; exact h2.form
theorem PasR.at_ {w : World} {v : Value} {l : List Pa} (h : PasR w v l) {i : Nat} (hi : i < l.length) :
    ∃ g o c lv, v = .slice (some ⟨g, o, none⟩) l.length c ∧ g < w.heap.size ∧ PaAt w g (o + i * 3) lv l[i] ∧ l[i].nm.length ≤ maxLen ∧ l[i].kd < 256 ∧ LgsR w lv l[i].lg := by
  obtain ⟨L, rfl, h2, h3⟩ := h
  rw [List.length_map] at hi
  obtain ⟨g, o, c, hv, _, _, hg, hx⟩ := h2.chunk paC_len hi
  have h4 := h3 _ (List.getElem_mem hi)
  rw [List.length_map, List.getElem_map]
  exact ⟨g, o, c, L[i].1, hv, hg, ⟨hx 0 _ rfl, hx 1 _ rfl, hx 2 _ rfl⟩, h4.1, h4.2.1, h4.2.2⟩
theorem PaAt.below {w w' : World} {g o : Nat} {lv : Value} {x : Pa} (h : PaAt w g o lv x) (hg : g < w.heap.size) (hb : Below w.heap.size w w') : PaAt w' g o lv x :=
  ⟨(hb.cell (p := ⟨g, o, none⟩) hg).trans h.c0, (hb.cell (p := ⟨g, o + 1, none⟩) hg).trans h.c1, (hb.cell (p := ⟨g, o + 2, none⟩) hg).trans h.c2⟩
/-- a procedure in a row -/
structure PrAt (w : World) (g o : Nat) (pv : Value) (x : Prc) : Prop where
  c0 : w.cell? ⟨g, o, none⟩ = some (.string (sb x.ap))
  c1 : w.cell? ⟨g, o + 1, none⟩ = some (.string (sb x.nm))
  c2 : w.cell? ⟨g, o + 2, none⟩ = some (.int .u8 (x.kd : Int))
  c3 : w.cell? ⟨g, o + 3, none⟩ = some pv
theorem PrcsR.form {w : World} {v : Value} {l : List Prc} (h : PrcsR w v l) : ∃ A c, v = .slice A l.length c ∧ l.length ≤ c ∧ c ≤ maxLen := by
  obtain ⟨L, rfl, h2, _⟩ := h
  rw [List.length_map]; exact h2.form
theorem PrcsR.at_ {w : World} {v : Value} {l : List Prc} (h : PrcsR w v l) {i : Nat} (hi : i < l.length) :
    ∃ g o c pv, v = .slice (some ⟨g, o, none⟩) l.length c ∧ g < w.heap.size ∧ PrAt w g (o + i * 4) pv l[i] ∧ l[i].ap.length ≤ maxLen ∧ l[i].nm.length ≤ maxLen ∧ l[i].kd < 256 ∧ PasR w pv l[i].pa := by
  obtain ⟨L, rfl, h2, h3⟩ := h
  rw [List.length_map] at hi
  obtain ⟨g, o, c, hv, _, _, hg, hx⟩ := h2.chunk prC_len hi
  have h4 := h3 _ (List.getElem_mem hi)
  rw [List.length_map, List.getElem_map]
  exact ⟨g, o, c, L[i].1, hv, hg, ⟨hx 0 _ rfl, hx 1 _ rfl, hx 2 _ rfl, hx 3 _ rfl⟩, h4.1, h4.2.1, h4.2.2.1, h4.2.2.2⟩
theorem PrAt.below {w w' : World} {g o : Nat} {pv : Value} {x : Prc} (h : PrAt w g o pv x) (hg : g < w.heap.size) (hb : Below w.heap.size w w') : PrAt w' g o pv x :=
  ⟨(hb.cell (p := ⟨g, o, none⟩) hg).trans h.c0, (hb.cell (p := ⟨g, o + 1, none⟩) hg).trans h.c1, (hb.cell (p := ⟨g, o + 2, none⟩) hg).trans h.c2, (hb.cell (p := ⟨g, o + 3, none⟩) hg).trans h.c3⟩
/-- an airway in a row -/
structure AwAt (w : World) (g o : Nat) (av : Value) (x : AwD) : Prop where
  c0 : w.cell? ⟨g, o, none⟩ = some (.string (sb x.nm))
  c1 : w.cell? ⟨g, o + 1, none⟩ = some av
theorem AwsD.form {w : World} {v : Value} {l : List AwD} (h : AwsD w v l) : ∃ A c, v = .slice A l.length c ∧ l.length ≤ c ∧ c ≤ maxLen := by
  obtain ⟨L, rfl, h2, _⟩ := h
  rw [List.length_map]; exact h2.form
theorem AwsD.at_ {w : World} {v : Value} {l : List AwD} (h : AwsD w v l) {i : Nat} (hi : i < l.length) :
    ∃ g o c av, v = .slice (some ⟨g, o, none⟩) l.length c ∧ g < w.heap.size ∧ AwAt w g (o + i * 2) av l[i] ∧ l[i].nm.length ≤ maxLen ∧ PtsR w av l[i].ps := by
  obtain ⟨L, rfl, h2, h3⟩ := h
  rw [List.length_map] at hi
  obtain ⟨g, o, c, hv, _, _, hg, hx⟩ := h2.chunk awC_len hi
  have h4 := h3 _ (List.getElem_mem hi)
  rw [List.length_map, List.getElem_map]
  exact ⟨g, o, c, L[i].1, hv, hg, ⟨hx 0 _ rfl, hx 1 _ rfl⟩, h4.1, h4.2⟩
theorem AwAt.below {w w' : World} {g o : Nat} {av : Value} {x : AwD} (h : AwAt w g o av x) (hg : g < w.heap.size) (hb : Below w.heap.size w w') : AwAt w' g o av x :=
  ⟨(hb.cell (p := ⟨g, o, none⟩) hg).trans h.c0, (hb.cell (p := ⟨g, o + 1, none⟩) hg).trans h.c1⟩
theorem aggLegD (w : World) : (isAgg 87).run Tryz.prog w = .ok true w := by kernel_rfl
theorem sizeLegD (w : World) : (Go.sizeOf 87).run Tryz.prog w = .ok 13 w := by kernel_rfl
theorem infoLegSD : (Tryz.prog.info? 87).map (·.size) = some 13 := by kernel_rfl
end Go.Proofs.YtecklnobgfahfaaGreatDoor
namespace Go.Proofs.YtecklnobgfahfaaGreatDoor
open Go.RowKit
set_option linter.unusedVariables false
set_option linter.unusedSimpArgs false
def txtB (l : List ByteArray) : List UInt8 := l.flatMap fun s => u8of (s.size : Int) :: bl s
theorem txtB_snoc (l : List ByteArray) (k : Nat) (hk : k < l.length) : txtB (l.take (k + 1)) = txtB (l.take k) ++ (u8of (l[k].size : Int) :: bl l[k]) := by
  unfold txtB; rw [List.take_succ_eq_append_getElem hk, List.flatMap_append]; simp
/-- the writer's bytes are stored anew, in two steps -/
theorem WrR.two {g B ga : Nat} {v v1 v2 : Value} {out out2 : List UInt8} {w w3 w4 : World} {o : Obj} (h : WrR g B v out w) (hg : (w.alloc o).grownBy w3 v.ownBlock) (h1 : ∀ b, v1.ownBlock = some b → v.ownBlock = some b ∨ w.heap.size ≤ b) (hg2 : w3.grownBy w4 v1.ownBlock)
    (hown : w4.ownsRow B 5 1 v2 out2.length (out2.map u8c)) (hga : v.ownBlock ≠ some ga) (hgl : ga < w.heap.size) (hgg : ga ≠ g) :
    WrR g B v2 out2 (w4.setCell ⟨g, 0, none⟩ v2) ∧ Frm (fun j => j = g ∨ (B ≤ j ∧ j ≠ ga)) w (w4.setCell ⟨g, 0, none⟩ v2) ∧ Bx g #[v] 61 w4 := by
  have hlt := h.own.lt
  have lo := h.lo
  have hi := h.hi
  have hgl0 := h.bx.lt
  have hs3 : w.heap.size ≤ w3.heap.size := by have := hg.size; rw [World.size_alloc] at this; omega
  have hs4 := hg2.size
  have hk : ∀ k, k < w.heap.size → v.ownBlock ≠ some k → w4.heap[k]? = w.heap[k]? := fun k hk hn =>
    (hg2.block k (by omega) (fun e => by rcases h1 k e.symm with e2 | e2; exact hn e2; omega)).trans ((hg.block k (by rw [World.size_alloc]; omega) (fun e => hn e.symm)).trans (((Below.refl w.heap.size w).alloc (Nat.le_refl _) o).block k hk))
  have hoth : ∀ k, k ≠ g → (w4.setCell ⟨g, 0, none⟩ v2).heap[k]? = w4.heap[k]? := fun k hk => heap_setCell_other w4 ⟨g, 0, none⟩ k v2 (fun e => hk (by simpa using e))
  have hng : v.ownBlock ≠ some g := h.lo
  have hx4 : Bx g #[v] 61 w4 := (hk g hgl0 hng).trans h.bx
  refine ⟨⟨hx4.set 0 v2, ?_, by simp; omega⟩, ⟨hg2.os.trans hg.os, hg2.tape.trans hg.tape, hg2.output.trans hg.output, by simp; omega, fun k hkl hn => ?_⟩, hx4⟩
  · obtain ⟨hl, h2 | ⟨b, cap, cur, hv, hb, hh, r⟩⟩ := hown
    · exact ⟨hl, .inl h2⟩
    · exact ⟨hl, .inr ⟨b, cap, cur, hv, hb, (hoth b (bx_ne hx4 hh)).trans hh, r⟩⟩
  · refine (hoth k (fun e => hn (.inl e))).trans (hk k hkl (fun e => ?_))
    have := (hlt _ e).1
    exact hn (.inr ⟨this, fun e2 => hga (e2 ▸ e)⟩)
end Go.Proofs.YtecklnobgfahfaaGreatDoor
namespace Go.Proofs.YtecklnobgfahfaaGreatDoor
open Go.RowKit
set_option linter.unusedVariables false
set_option linter.unusedSimpArgs false
theorem shN_nat (n : Nat) : ∀ j, shN j (n : Int) = ((n / 256 ^ j : Nat) : Int)
  | 0 => by simp [shN]
  | j + 1 => by
    show shN j (n : Int) / 256 = _
    rw [shN_nat n j, Nat.pow_succ, ← Nat.div_div_eq_div_mul]
    omega
theorem loN_lowB (n : Nat) : ∀ k : Nat, loN (lowB (n : Int) k) = n % 256 ^ k
  | 0 => by simp [lowB, loN, Nat.mod_one]
  | k + 1 => by
    rw [lowB_snoc, loN_snoc, loN_lowB n k, lowB_len]
    have h1 := u8of_nat (shN k (n : Int))
    rw [shN_nat] at h1 ⊢
    have h2 : (u8of ((n / 256 ^ k : Nat) : Int)).toNat = n / 256 ^ k % 256 := by omega
    rw [h2, Nat.pow_succ, Nat.mod_mul]
    rw [Nat.mul_comm]
/-- sections, one behind the other -/
def secsB : Nat → List (List UInt8) → List UInt8
  | _, [] => []
  | t, c :: cs => secB (UInt8.ofNat t) c ++ secsB (t + 1) cs
theorem secB_len (t : UInt8) (c : List UInt8) : (secB t c).length = 5 + c.length := by
  unfold secB; rw [List.length_append, List.length_append, lowB_len]; rfl
theorem secB_at (t : UInt8) (c : List UInt8) : ((secB t c).drop 1).take 4 = lowB (c.length : Int) 4 := by
  unfold secB
  rw [List.append_assoc, List.singleton_append, List.drop_succ_cons, List.drop_zero]
  have := lowB_len (c.length : Int) 4
  rw [List.take_append_of_le_length (by omega), List.take_of_length_le (by omega)]
/-- bytes that agree with sections behind a place, as far as both go, and have their form, have their length -/
theorem rdG_agree : ∀ (cs : List (List UInt8)) (pre body' : List UInt8) (tag : Nat) (L : List Sec), (∀ c ∈ cs, c.length < 4294967296) →
    (∀ j, j < body'.length → j < (pre ++ secsB tag cs).length → body'[j]? = (pre ++ secsB tag cs)[j]?) → rdG body' cs.length tag pre.length = some L → body'.length = (pre ++ secsB tag cs).length
  | [], pre, body', tag, L, _, _, h => by
    unfold rdG at h
    simp only [List.length_nil, secsB, List.append_nil] at h ⊢
    split at h
    · rename_i e; exact e.symm
    · cases h
  | c :: cs, pre, body', tag, L, hc, hag, h => by
    have hcl := hc c (by simp)
    have hl : (pre ++ secsB tag (c :: cs)).length = pre.length + (5 + c.length) + (secsB (tag + 1) cs).length := by
      simp only [secsB, List.length_append, secB_len]; omega
    rw [show (c :: cs).length = cs.length + 1 from rfl] at h
    by_cases h1 : (tkS body'.length 4 (tkS body'.length 1 (pre.length, false))).2 = true ∨ (byV body' body'.length (pre.length, false)).toNat ≠ tag ∨ body'.length - (pre.length + 5) < loN (tkV body' body'.length 4 (pre.length + 1, false))
    · rw [rdG_form h1] at h; cases h
    · simp only [not_or] at h1
      obtain ⟨g1, g2, g3⟩ := h1
      have h5 : pre.length + 5 ≤ body'.length := by
        by_cases a1 : body'.length - pre.length < 1
        · rw [tkS_no (.inr a1)] at g1
          rw [tkS_bad rfl] at g1
          exact absurd rfl g1
        · rw [tkS_yes a1] at g1
          by_cases a4 : body'.length - (pre.length + 1) < 4
          · rw [tkS_no (.inr a4)] at g1
            exact absurd rfl g1
          · omega
      have hbytes : (body'.drop (pre.length + 1)).take 4 = lowB (c.length : Int) 4 := by
        have e1 : (body'.drop (pre.length + 1)).take 4 = ((pre ++ secsB tag (c :: cs)).drop (pre.length + 1)).take 4 := by
          apply List.ext_getElem?
          intro i
          rw [List.getElem?_take, List.getElem?_take, List.getElem?_drop, List.getElem?_drop]
          split
          · exact hag _ (by omega) (by omega)
          · rfl
        rw [e1, ← List.drop_drop, List.drop_left]
        simp only [secsB]
        rw [List.drop_append_of_le_length (by rw [secB_len]; omega), List.take_append_of_le_length (by rw [List.length_drop, secB_len]; omega)]
        exact secB_at _ _
      have hn : loN (tkV body' body'.length 4 (pre.length + 1, false)) = c.length := by
        rw [tkV_yes (by omega), hbytes, loN_lowB]
        exact Nat.mod_eq_of_lt hcl
      rw [hn] at g3
      by_cases h2 : (secS body' (pre.length + 5 + c.length) tag (pre.length + 5, false)).2 = true ∨ (secS body' (pre.length + 5 + c.length) tag (pre.length + 5, false)).1 ≠ pre.length + 5 + c.length
      · rw [rdG_sec hn h2] at h; cases h
      · simp only [not_or, Decidable.not_not] at h2
        rw [rdG_more g1 (by simpa using g2) hn g3 h2.1 h2.2] at h
        cases hr : rdG body' cs.length (tag + 1) (pre.length + 5 + c.length) with
        | none => rw [hr] at h; cases h
        | some L' =>
          have e := rdG_agree cs (pre ++ secB (UInt8.ofNat tag) c) body' (tag + 1) L' (fun x hx => hc x (by simp [hx])) (by
            intro j hj hj2
            rw [List.append_assoc] at hj2 ⊢
            exact hag j hj hj2) (by rw [List.length_append, secB_len, ← hr]; congr 1; omega)
          rw [e, List.append_assoc]
          rfl
theorem rdF_agree {cs : List (List UInt8)} {body' : List UInt8} (h4 : cs.length = 4) (hc : ∀ c ∈ cs, c.length < 4294967296) (hag : ∀ j, j < body'.length → j < (magicL ++ secsB 1 cs).length → body'[j]? = (magicL ++ secsB 1 cs)[j]?) (hne : body'.length ≠ (magicL ++ secsB 1 cs).length) : rdF body' = none := by
  unfold rdF
  split
  · cases hr : rdG body' 4 1 4 with
    | none => rfl
    | some L =>
      have hr2 : rdG body' cs.length 1 magicL.length = some L := by rw [h4]; exact hr
      exact absurd (rdG_agree cs magicL body' 1 L hc hag hr2) hne
  · rfl
/-- a proper prefix of an image's bytes -/
theorem rdF_cut {cs : List (List UInt8)} (h4 : cs.length = 4) (hc : ∀ c ∈ cs, c.length < 4294967296) {k : Nat} (hk : k < (magicL ++ secsB 1 cs).length) : rdF ((magicL ++ secsB 1 cs).take k) = none :=
  rdF_agree h4 hc (fun j hj _ => by rw [List.getElem?_take, if_pos (by rw [List.length_take] at hj; omega)]) (by rw [List.length_take]; omega)
/-- an image's bytes and one more -/
theorem rdF_more {cs : List (List UInt8)} (h4 : cs.length = 4) (hc : ∀ c ∈ cs, c.length < 4294967296) (b : UInt8) : rdF ((magicL ++ secsB 1 cs) ++ [b]) = none :=
  rdF_agree h4 hc (fun j _ hj => by rw [List.getElem?_append_left hj]) (by rw [List.length_append]; simp)
end Go.Proofs.YtecklnobgfahfaaGreatDoor
namespace Go.Proofs.YtecklnobgfahfaaGreatDoor
open Go.RowKit
set_option linter.unusedVariables false
set_option linter.unusedSimpArgs false
def txtL (l : List (List UInt8)) : List UInt8 := l.flatMap fun s => u8of (s.length : Int) :: s
theorem txtB_map (l : List (List UInt8)) : txtB (l.map sb) = txtL l := by
  unfold txtB txtL
  rw [List.flatMap_map]
  first
    | rfl
    | (congr 1; funext s; rw [bl_sb]; rfl)
    | (congr 1; funext s; simp [bl_sb])
def u8b (n : Nat) : UInt8 := u8of (n : Int)
def hdB (h : ImHd) : List UInt8 := txtL [h.nm] ++ numB [h.cy, h.fr, h.tu, h.la, h.lo]
def fxB (f : Fx) : List UInt8 := txtL [f.id, f.rg] ++ ([u8b f.kd] ++ numB [f.lat, f.lon, f.el, f.ra])
def ptB (p : Pt) : List UInt8 := txtL [p.ref] ++ (numB [p.lo, p.hi] ++ [u8b p.dir])
def awB (a : AwD) : List UInt8 := txtL [a.nm] ++ (lowB (a.ps.length : Int) 2 ++ a.ps.flatMap ptB)
def lgB (l : Lg) : List UInt8 := [u8b l.ty] ++ (txtL [l.fi, l.ce] ++ ([u8b l.tn, if l.ov then 1 else 0] ++ numB [l.cr, l.ds, l.ra, l.th, l.lo, l.hi, l.sp, l.rn]))
def paB (x : Pa) : List UInt8 := [u8b x.kd] ++ (txtL [x.nm] ++ (lowB (x.lg.length : Int) 2 ++ x.lg.flatMap lgB))
def prB (p : Prc) : List UInt8 := txtL [p.ap, p.nm] ++ ([u8b p.kd] ++ (lowB (p.pa.length : Int) 2 ++ p.pa.flatMap paB))
def conB (d : DbD) : List (List UInt8) :=
  [hdB d.hd, lowB (d.fx.length : Int) 2 ++ d.fx.flatMap fxB, lowB (d.aw.length : Int) 2 ++ d.aw.flatMap awB, lowB (d.pr.length : Int) 2 ++ d.pr.flatMap prB]
/-- the image of a database, ahead of its checksum -/
def dbB (d : DbD) : List UInt8 := magicL ++ secsB 1 (conB d)
/-! ### few elements -/
def fewA (a : AwD) : AwD := { a with ps := a.ps.take 8 }
def fewP (x : Pa) : Pa := { x with lg := x.lg.take 6 }
def fewR (p : Prc) : Prc := { p with pa := (p.pa.take 5).map fewP }
def fewD (d : DbD) : DbD := { d with fx := d.fx.take 24, aw := (d.aw.take 6).map fewA, pr := (d.pr.take 4).map fewR }
end Go.Proofs.YtecklnobgfahfaaGreatDoor
