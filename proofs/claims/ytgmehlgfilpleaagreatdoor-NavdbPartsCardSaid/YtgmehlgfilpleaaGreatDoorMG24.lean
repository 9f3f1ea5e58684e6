/-
  Several texts as one.
-/
import Derived.Test.YtgmehlgfilpleaaGreatDoorMG23
import Derived.Lib.AppendStr
import Derived.Deep.RegionLaw
import Derived.Test.YtgmehlgfilpleaaGreatDoorMG13
import Derived.Test.YtgmehlgfilpleaaGreatDoorDbO
import Derived.Test.YtgmehlgfilpleaaGreatDoorCkP
import Derived.SizedLaws
import Derived.Test.YtgmehlgfilpleaaGreatDoorMG16
import Derived.Test.YtgmehlgfilpleaaGreatDoorFixF
namespace Go.Proofs.YtgmehlgfilpleaaGreatDoor
open Go.RowKit
set_option linter.unusedVariables false
set_option linter.unusedSimpArgs false
/-- a writer whose bytes are its own -/
structure WrR (g B : Nat) (v : Value) (out : List UInt8) (w : World) : Prop where
  bx : Bx g #[v] 132 w
  own : w.ownsRow B 5 1 v out.length (out.map u8c)
  hi : B ≤ w.heap.size
theorem WrR.lo {g B : Nat} {v : Value} {out : List UInt8} {w : World} (h : WrR g B v out w) : v.ownBlock ≠ some g := fun e => by
  obtain ⟨cur, e', z, hh, he⟩ := own_block h.own g e
  have h5 := h.bx
  unfold Bx at h5
  rw [h5] at hh
  injection hh with hh
  injection hh with _ h6 _
  rw [← h6] at he
  exact absurd he (by decide)
theorem bx_ne {g b : Nat} {v : Value} {w : World} {cur : Array Value} {z : Nat × Nat} (h : Bx g #[v] 132 w) (hh : w.heap[b]? = some (.cells cur 5 z)) : b ≠ g := fun e => by
  subst e
  unfold Bx at h
  rw [h] at hh
  injection hh with hh
  injection hh with _ h6 _
  exact absurd h6 (by decide)
/-- what a call of the writer leaves: all but its box and its bytes stands; its bytes lie where they were or in a block of the call's own -/
structure WrTo (g B : Nat) (v : Value) (out : List UInt8) (w : World) (v' : Value) (w' : World) : Prop where
  r : WrR g B v' out w'
  f : Frm (fun k => k = g ∨ v.ownBlock = some k) w w'
  o : ∀ b, v'.ownBlock = some b → v.ownBlock = some b ∨ w.heap.size ≤ b
theorem WrTo.refl {g B : Nat} {v : Value} {out : List UInt8} {w : World} (h : WrR g B v out w) : WrTo g B v out w v w := ⟨h, Frm.refl _ _, fun b hb => .inl hb⟩
theorem WrTo.then_ {g B : Nat} {v v1 v2 : Value} {o1 o2 : List UInt8} {w w1 w2 : World} (h : WrTo g B v o1 w v1 w1) (k : WrTo g B v1 o2 w1 v2 w2) : WrTo g B v o2 w v2 w2 := by
  have hs := h.f.size
  refine ⟨k.r, ⟨k.f.os.trans h.f.os, k.f.tape.trans h.f.tape, k.f.output.trans h.f.output, Nat.le_trans hs k.f.size, fun b hb hn => ?_⟩, fun b hb => ?_⟩
  · refine (k.f.block b (by omega) (fun hc => ?_)).trans (h.f.block b hb hn)
    rcases hc with h1 | h1
    · exact hn (.inl h1)
    · rcases h.o b h1 with h2 | h2
      · exact hn (.inr h2)
      · omega
  · rcases k.o b hb with h1 | h1
    · exact h.o b h1
    · exact .inr (by omega)
/-- a byte or more behind the others -/
theorem WrR.push {g B : Nat} {v v' : Value} {out add : List UInt8} {w w3 : World} {o : Obj} (h : WrR g B v out w) (hown : w3.ownsRow B 5 1 v' (out.length + add.length) (out.map u8c ++ add.map u8c)) (hg : (w.alloc o).grownBy w3 v.ownBlock) (ho : ∀ b, v'.ownBlock = some b → v.ownBlock = some b ∨ w.heap.size ≤ b) :
    WrTo g B v (out ++ add) w v' (w3.setCell ⟨g, 0, none⟩ v') := by
  have hlt := h.own.lt
  have lo := h.lo
  have hi := h.hi
  have hgl := h.bx.lt
  have hsz : w.heap.size ≤ w3.heap.size := by have := hg.size; rw [World.size_alloc] at this; omega
  have hk : ∀ k, k < w.heap.size → v.ownBlock ≠ some k → w3.heap[k]? = w.heap[k]? := fun k hk hn =>
    (hg.block k (by rw [World.size_alloc]; omega) (fun e => hn e.symm)).trans (((Below.refl w.heap.size w).alloc (Nat.le_refl _) o).block k hk)
  have hoth : ∀ k, k ≠ g → (w3.setCell ⟨g, 0, none⟩ v').heap[k]? = w3.heap[k]? := fun k hk => heap_setCell_other w3 ⟨g, 0, none⟩ k v' (fun e => hk (by simpa using e))
  have hng : v.ownBlock ≠ some g := h.lo
  have hx3 : Bx g #[v] 132 w3 := (hk g hgl hng).trans h.bx
  refine ⟨⟨hx3.set 0 v', ?_, by simp; omega⟩, ⟨hg.os, hg.tape, hg.output, by simpa using hsz, fun k hkl hn => ?_⟩, ho⟩
  · rw [List.length_append, List.map_append]
    obtain ⟨hl, h2 | ⟨b, cap, cur, hv, hb, hh, r⟩⟩ := hown
    · exact ⟨hl, .inl h2⟩
    · exact ⟨hl, .inr ⟨b, cap, cur, hv, hb, (hoth b (bx_ne hx3 hh)).trans hh, r⟩⟩
  · exact (hoth k (fun e => hn (.inl e))).trans (hk k hkl (fun e => hn (.inr e)))
/-- the writer's bytes are stored anew, in two steps -/
theorem WrR.two {g B ga : Nat} {v v1 v2 : Value} {out out2 : List UInt8} {w w3 w4 : World} {o : Obj} (h : WrR g B v out w) (hg : (w.alloc o).grownBy w3 v.ownBlock) (h1 : ∀ b, v1.ownBlock = some b → v.ownBlock = some b ∨ w.heap.size ≤ b) (hg2 : w3.grownBy w4 v1.ownBlock)
    (hown : w4.ownsRow B 5 1 v2 out2.length (out2.map u8c)) (hga : v.ownBlock ≠ some ga) (hgl : ga < w.heap.size) (hgg : ga ≠ g) :
    WrR g B v2 out2 (w4.setCell ⟨g, 0, none⟩ v2) ∧ Frm (fun j => j = g ∨ (B ≤ j ∧ j ≠ ga)) w (w4.setCell ⟨g, 0, none⟩ v2) ∧ Bx g #[v] 132 w4 := by
  have hlt := h.own.lt
  have lo := h.lo
  have hi := h.hi
  have hgl0 := h.bx.lt
  have hs3 : w.heap.size ≤ w3.heap.size := by have := hg.size; rw [World.size_alloc] at this; omega
  have hs4 := hg2.size
  have hk : ∀ k, k < w.heap.size → v.ownBlock ≠ some k → w4.heap[k]? = w.heap[k]? := fun k hk hn =>
    (hg2.block k (by omega) (fun e => by rcases h1 k e.symm with e2 | e2; exact hn e2; omega)).trans ((hg.block k (by rw [World.size_alloc]; omega) (fun e => hn e.symm)).trans (((Below.refl w.heap.size w).alloc (Nat.le_refl _) o).block k hk))
  have hoth : ∀ k, k ≠ g → (w4.setCell ⟨g, 0, none⟩ v2).heap[k]? = w4.heap[k]? := fun k hk => heap_setCell_other w4 ⟨g, 0, none⟩ k v2 (fun e => hk (by simpa using e))
  have hng : v.ownBlock ≠ some g := h.lo
  have hx4 : Bx g #[v] 132 w4 := (hk g hgl0 hng).trans h.bx
  refine ⟨⟨hx4.set 0 v2, ?_, by simp; omega⟩, ⟨hg2.os.trans hg.os, hg2.tape.trans hg.tape, hg2.output.trans hg.output, by simp; omega, fun k hkl hn => ?_⟩, hx4⟩
  · obtain ⟨hl, h2 | ⟨b, cap, cur, hv, hb, hh, r⟩⟩ := hown
    · exact ⟨hl, .inl h2⟩
    · exact ⟨hl, .inr ⟨b, cap, cur, hv, hb, (hoth b (bx_ne hx4 hh)).trans hh, r⟩⟩
  · refine (hoth k (fun e => hn (.inl e))).trans (hk k hkl (fun e => ?_))
    have := (hlt _ e).1
    exact hn (.inr ⟨this, fun e2 => hga (e2 ▸ e)⟩)
def dbI (h : ImHd) (f a p : Value) : Array Value := #[.string (sb h.nm), .int .i64 h.cy, .int .i64 h.fr, .int .i64 h.tu, .int .i64 h.la, .int .i64 h.lo, f, a, p]
def dbZ9 : Array Value := #[.string ⟨#[]⟩, .int .i64 0, .int .i64 0, .int .i64 0, .int .i64 0, .int .i64 0, .slice none 0 0, .slice none 0 0, .slice none 0 0]
def secC (s : Sec) : List Value := [.int .u8 (s.1 : Int), .int .i64 (s.2.1 : Int), .int .i64 (s.2.2.1 : Int), .int .i64 (s.2.2.2 : Int)]
def seccells (L : List Sec) : List Value := L.flatMap secC
theorem seccells_snoc (L : List Sec) (s : Sec) : seccells (L ++ [s]) = seccells L ++ secC s := by unfold seccells; rw [List.flatMap_append]; simp
/-- a list that was read: its length; nil, where it has no elements -/
def LF (v : Value) (n : Nat) : Prop := ∃ A c, v = .slice A n c ∧ (n = 0 → v = .slice none 0 0)
theorem LF.nil : LF (.slice none 0 0) 0 := ⟨_, _, rfl, fun _ => rfl⟩
/-- the database behind k sections -/
structure DbK (body : List UInt8) (k : Nat) (db : Array Value) (L : List Sec) : Prop where
  ex : ∃ (f a p : Value) (nf na np : Nat), db = dbI (if k = 0 then hd0 else imHdF body) f a p ∧ LF f nf ∧ LF a na ∧ LF p np ∧ (k < 2 → nf = 0) ∧ (k < 3 → na = 0) ∧ (k < 4 → np = 0) ∧ L.map (·.2.2.2) = ([1, nf, na, np] : List Nat).take k
/-- while the sections are read -/
structure RdI (w : World) (q1 q2 gb ob c B : Nat) (body : List UInt8) (db : Array Value) (s : RS) (sv : Value) (L : List Sec) (wr : World) : Prop where
  res : Bx w.heap.size dbZ9 30 wr
  rd : RdP q1 gb ob c body.length body s wr
  dbx : Bx q2 db 30 wr
  own : wr.ownsRow B 129 4 sv L.length (seccells L)
  be : Below w.heap.size w wr
  o1 : w.heap.size < gb
  o2 : gb < q1
  o3 : q1 < q2
  o4 : q2 < B
  hi : B ≤ wr.heap.size
section
variable {w wr wr' : World} {q1 q2 gb ob c B : Nat} {body : List UInt8} {db db' : Array Value} {s s' : RS} {sv : Value} {L : List Sec}
theorem own_keep {S : Nat → Prop} {base : Nat} {w w' : World} {e : TypeId} {size n : Nat} {v : Value} {xs : List Value} (h : w.ownsRow base e size v n xs) (hf : Frm S w w') (hS : ∀ b, base ≤ b → b < w.heap.size → ¬ S b) : w'.ownsRow base e size v n xs := by
  obtain ⟨hl, h2 | ⟨b, cap, cur, hv, hb, hh, r⟩⟩ := h
  · exact ⟨hl, .inl h2⟩
  · exact ⟨hl, .inr ⟨b, cap, cur, hv, hb, (hf.block b (heap_lt hh) (hS b hb (heap_lt hh))).trans hh, r⟩⟩
theorem RdI.frm (h : RdI w q1 q2 gb ob c B body db s sv L wr) {S : Nat → Prop} (hf : Frm S wr wr') (hS : ∀ k, S k → k = q2 ∨ wr.heap.size ≤ k) (hdb : Bx q2 db' 30 wr') : RdI w q1 q2 gb ob c B body db' s sv L wr' := by
  have o1 := h.o1; have o2 := h.o2; have o3 := h.o3; have o4 := h.o4; have hi := h.hi
  have hn : ∀ b, b < wr.heap.size → b ≠ q2 → ¬ S b := fun b hb hne hs => by rcases hS b hs with h1 | h1 <;> omega
  refine ⟨(hf.block _ (by omega) (hn _ (by omega) (by omega))).trans h.res, h.rd.keep hf (hn _ (by omega) (by omega)) (hn _ (by omega) (by omega)), hdb, own_keep h.own hf (fun b hb hl => hn b hl (by omega)), h.be.trans (hf.below (by omega) (fun k hk => by rcases hS k hk with h1 | h1 <;> omega)), o1, o2, o3, o4, Nat.le_trans hi hf.size⟩
theorem RdI.below (h : RdI w q1 q2 gb ob c B body db s sv L wr) (hb : Below wr.heap.size wr wr') : RdI w q1 q2 gb ob c B body db s sv L wr' :=
  h.frm (S := fun _ => False) (Frm.of_below hb) (fun _ hk => hk.elim) (h.dbx.via hb)
theorem RdI.call (h : RdI w q1 q2 gb ob c B body db s sv L wr) (k : RdPTo q1 gb ob c body.length body s' wr wr') : RdI w q1 q2 gb ob c B body db s' sv L wr' := by
  have o1 := h.o1; have o2 := h.o2; have o3 := h.o3; have o4 := h.o4; have hi := h.hi
  have hf := k.f
  refine ⟨(hf.block _ (by omega) (by omega)).trans h.res, k.r, (hf.block _ (by omega) (by omega)).trans h.dbx, own_keep h.own hf (fun b hb hl => by omega), h.be.trans (hf.below (by omega) (fun k hk => by omega)), o1, o2, o3, o4, Nat.le_trans hi hf.size⟩
theorem RdI.push (h : RdI w q1 q2 gb ob c B body db s sv L wr) {v' : Value} {x : Sec} {o : Obj} (hown : wr'.ownsRow B 129 4 v' (L.length + 1) (seccells L ++ secC x)) (hg : (wr.alloc o).grownBy wr' sv.ownBlock) : RdI w q1 q2 gb ob c B body db s v' (L ++ [x]) wr' := by
  have o1 := h.o1; have o2 := h.o2; have o3 := h.o3; have o4 := h.o4; have hi := h.hi
  have hlo := h.own.lt
  have hF : Frm (fun b => B ≤ b) wr wr' := by
    refine ⟨hg.os, hg.tape, hg.output, ?_, fun b hb hn => ?_⟩
    · have := hg.size
      rw [World.size_alloc] at this; omega
    · have h1 := hg.block b (by rw [World.size_alloc]; omega) (by intro e; have := (hlo b e.symm).1; omega)
      rw [h1]
      exact ((Below.refl wr.heap.size wr).alloc (Nat.le_refl _) o).block b hb
  refine ⟨(hF.block _ (by omega) (by omega)).trans h.res, h.rd.keep hF (by omega) (by omega), (hF.block _ (by omega) (by omega)).trans h.dbx, ?_, h.be.trans (hF.below (by omega) (fun k hk => by omega)), o1, o2, o3, o4, Nat.le_trans hi hF.size⟩
  rw [List.length_append, seccells_snoc]; exact hown
end
theorem infoDB9 : (Tryz.prog.info? 30).map (·.size) = some 9 := by kernel_rfl
theorem aggDB9 (w : World) : (isAgg 30).run Tryz.prog w = .ok true w := by kernel_rfl
theorem sizeDB9 (w : World) : (Go.sizeOf 30).run Tryz.prog w = .ok 9 w := by kernel_rfl
theorem row_below {w W : World} {q : Nat} {cs : Array Value} (h : Below w.heap.size w W) (hq : w.heap.size = q) : Below w.heap.size w (W.setRow q cs) :=
  ⟨h.os, h.tape, h.output, by have := h.size; simp [World.setRow]; omega, fun k hk => (setRow_other W q k cs (by omega)).trans (h.block k hk)⟩
theorem Bx.h9 {b : Nat} {x0 x1 x2 x3 x4 x5 x6 x7 x8 : Value} {t : TypeId} {w : World} (h : Bx b #[x0, x1, x2, x3, x4, x5, x6, x7, x8] t w) (y0 y1 y2 y3 y4 y5 : Value) :
    Bx b #[y0, y1, y2, y3, y4, y5, x6, x7, x8] t ((((((w.setCell ⟨b, 0, none⟩ y0).setCell ⟨b, 1, none⟩ y1).setCell ⟨b, 2, none⟩ y2).setCell ⟨b, 3, none⟩ y3).setCell ⟨b, 4, none⟩ y4).setCell ⟨b, 5, none⟩ y5) := by
  have h0 : Bx b #[y0, x1, x2, x3, x4, x5, x6, x7, x8] t _ := h.set 0 y0
  have h1 : Bx b #[y0, y1, x2, x3, x4, x5, x6, x7, x8] t _ := h0.set 1 y1
  have h2 : Bx b #[y0, y1, y2, x3, x4, x5, x6, x7, x8] t _ := h1.set 2 y2
  have h3 : Bx b #[y0, y1, y2, y3, x4, x5, x6, x7, x8] t _ := h2.set 3 y3
  have h4 : Bx b #[y0, y1, y2, y3, y4, x5, x6, x7, x8] t _ := h3.set 4 y4
  have h5 : Bx b #[y0, y1, y2, y3, y4, y5, x6, x7, x8] t _ := h4.set 5 y5
  exact h5
theorem Bx.h6 {q : Nat} {hd : ImHd} {f a p : Value} {t : TypeId} {w : World} (h : Bx q (dbI hd f a p) t w) (y0 y1 y2 y3 y4 y5 : Value) :
    Bx q #[y0, y1, y2, y3, y4, y5, f, a, p] t ((((((w.setCell ⟨q, 0, none⟩ y0).setCell ⟨q, 1, none⟩ y1).setCell ⟨q, 2, none⟩ y2).setCell ⟨q, 3, none⟩ y3).setCell ⟨q, 4, none⟩ y4).setCell ⟨q, 5, none⟩ y5) := Bx.h9 h y0 y1 y2 y3 y4 y5
theorem DbK.s1 {body : List UInt8} {L : List Sec} {v a p : Value} {nv nf na np o n : Nat} (hv : LF v nv) (ha : LF a na) (hp : LF p np) (h2 : na = 0) (h3 : np = 0) (hm : L.map (·.2.2.2) = ([1, nf, na, np] : List Nat).take 1) : DbK body 2 (dbI (imHdF body) v a p) (L ++ [(2, o, n, nv)]) :=
  ⟨v, a, p, nv, na, np, rfl, hv, ha, hp, fun h => absurd h (by decide), fun _ => h2, fun _ => h3, by rw [List.map_append, hm]; rfl⟩
theorem DbK.s2 {body : List UInt8} {L : List Sec} {v f p : Value} {nv nf na np o n : Nat} (hf : LF f nf) (hv : LF v nv) (hp : LF p np) (h3 : np = 0) (hm : L.map (·.2.2.2) = ([1, nf, na, np] : List Nat).take 2) : DbK body 3 (dbI (imHdF body) f v p) (L ++ [(3, o, n, nv)]) :=
  ⟨f, v, p, nf, nv, np, rfl, hf, hv, hp, fun h => absurd h (by decide), fun h => absurd h (by decide), fun _ => h3, by rw [List.map_append, hm]; rfl⟩
theorem DbK.s3 {body : List UInt8} {L : List Sec} {v f a : Value} {nv nf na np o n : Nat} (hf : LF f nf) (ha : LF a na) (hv : LF v nv) (hm : L.map (·.2.2.2) = ([1, nf, na, np] : List Nat).take 3) : DbK body 4 (dbI (imHdF body) f a v) (L ++ [(4, o, n, nv)]) :=
  ⟨f, a, v, nf, na, nv, rfl, hf, ha, hv, fun h => absurd h (by decide), fun h => absurd h (by decide), fun h => absurd h (by decide), by rw [List.map_append, hm]; rfl⟩
theorem RdI.step {w wr wr' : World} {q1 q2 gb ob c B : Nat} {body : List UInt8} {db db' : Array Value} {s : RS} {sv : Value} {L : List Sec} (h : RdI w q1 q2 gb ob c B body db s sv L wr) {S : Nat → Prop} (hf : Frm S wr wr') (hS : ∀ k, S k → k = q2 ∨ (B ≤ k ∧ sv.ownBlock ≠ some k)) (hdb : Bx q2 db' 30 wr') : RdI w q1 q2 gb ob c B body db' s sv L wr' := by
  have o1 := h.o1; have o2 := h.o2; have o3 := h.o3; have o4 := h.o4; have hi := h.hi
  have hn : ∀ b, b < B → b ≠ q2 → ¬ S b := fun b hb hne hs => by rcases hS b hs with h1 | h1 <;> omega
  refine ⟨(hf.block _ (by omega) (hn _ (by omega) (by omega))).trans h.res, h.rd.keep hf (hn _ (by omega) (by omega)) (hn _ (by omega) (by omega)), hdb, ?_, h.be.trans (hf.below (by omega) (fun k hk => by rcases hS k hk with h1 | h1 <;> omega)), o1, o2, o3, o4, Nat.le_trans hi hf.size⟩
  obtain ⟨hl, h2 | ⟨b, cap, cur, hv, hb, hh, r⟩⟩ := h.own
  · exact ⟨hl, .inl h2⟩
  · refine ⟨hl, .inr ⟨b, cap, cur, hv, hb, (hf.block b (heap_lt hh) (fun hs => ?_)).trans hh, r⟩⟩
    rcases hS b hs with h1 | ⟨_, h1⟩
    · omega
    · exact h1 (by rw [hv]; rfl)
theorem WrR.below {g B : Nat} {v : Value} {out : List UInt8} {w w' : World} (h : WrR g B v out w) (hb : Below w.heap.size w w') : WrR g B v out w' :=
  ⟨h.bx.via hb, own_below h.own hb, Nat.le_trans h.hi hb.size⟩
/-- a writer beside another one, of which a call is made -/
theorem WrR.beside {g1 B1 g2 B2 : Nat} {v1 v2 v2' : Value} {out1 out2 : List UInt8} {w w' : World} (h : WrR g1 B1 v1 out1 w) (k : WrTo g2 B2 v2 out2 w v2' w') (hg : g1 ≠ g2) (h1 : v2.ownBlock ≠ some g1) (hd : ∀ b, v1.ownBlock = some b → v2.ownBlock ≠ some b ∧ b ≠ g2) : WrR g1 B1 v1 out1 w' := by
  refine ⟨(k.f.block g1 h.bx.lt (fun e => by rcases e with e | e; exact hg e; exact h1 e)).trans h.bx, ?_, Nat.le_trans h.hi k.f.size⟩
  obtain ⟨hl, h2 | ⟨b, cap, cur, hv, hb, hh, r⟩⟩ := h.own
  · exact ⟨hl, .inl h2⟩
  · refine ⟨hl, .inr ⟨b, cap, cur, hv, hb, (k.f.block b (heap_lt hh) (fun e => ?_)).trans hh, r⟩⟩
    obtain ⟨e1, e2⟩ := hd b (by rw [hv]; rfl)
    rcases e with e | e
    · exact e2 e
    · exact e1 e
theorem WrTo.of_below {g B : Nat} {v v' : Value} {out : List UInt8} {w w1 w' : World} (hb : Below w.heap.size w w1) (h : WrTo g B v out w1 v' w') : WrTo g B v out w v' w' :=
  ⟨h.r, (Frm.of_below hb).trans h.f, fun b e => by rcases h.o b e with h1 | h1; exact .inl h1; exact .inr (Nat.le_trans hb.size h1)⟩
theorem sep_to {g1 B1 g2 : Nat} {v1 v2 va : Value} {out1 : List UInt8} {w : World} (h1 : WrR g1 B1 v1 out1 w) (hgo : v2.ownBlock ≠ some g1) (hd : ∀ b, v1.ownBlock = some b → v2.ownBlock ≠ some b ∧ b ≠ g2) (o : ∀ b, va.ownBlock = some b → v2.ownBlock = some b ∨ w.heap.size ≤ b) :
    va.ownBlock ≠ some g1 ∧ ∀ b, v1.ownBlock = some b → va.ownBlock ≠ some b ∧ b ≠ g2 := by
  have hl := h1.bx.lt
  refine ⟨fun e => ?_, fun b hb => ⟨fun e => ?_, (hd b hb).2⟩⟩
  · rcases o _ e with h | h
    · exact hgo h
    · omega
  · have := (h1.own.lt b hb).2
    rcases o _ e with h | h
    · exact (hd b hb).1 h
    · omega
section
variable {P : Program} (w : World)
end
/-- a writer whose bytes are a constant's -/
structure WrF (g : Nat) (v : Value) (out : List UInt8) (w : World) : Prop where
  bx : Bx g #[v] 132 w
  v : ∃ b, v = .slice (some ⟨b, 0, none⟩) out.length out.length ∧ BsA w b 0 out
theorem WrF.below {g : Nat} {v : Value} {out : List UInt8} {w w' : World} (h : WrF g v out w) (hb : Below w.heap.size w w') : WrF g v out w' := by
  obtain ⟨hx, b, hv, hbs⟩ := h
  exact ⟨hx.via hb, b, hv, hbs.below hb⟩
/-! ### few elements -/
def fewA (a : AwD) : AwD := { a with ps := a.ps.take 8 }
def fewP (x : Pa) : Pa := { x with lg := x.lg.take 6 }
def fewR (p : Prc) : Prc := { p with pa := (p.pa.take 5).map fewP }
def fewD (d : DbD) : DbD := { d with fx := d.fx.take 24, aw := (d.aw.take 6).map fewA, pr := (d.pr.take 4).map fewR }
section
variable {P : Program} (w : World)
end
theorem WrTo.box {g B q : Nat} {v v' : Value} {out out0 : List UInt8} {w w' : World} {cs : Array Value} {T : TypeId} (h : WrTo g B v out w v' w') (h0 : WrR g B v out0 w) (hb : Bx q cs T w) (hT : T ≠ 5) (hq : q ≠ g) : Bx q cs T w' := by
  refine (h.f.block q hb.lt (fun e => ?_)).trans hb
  rcases e with e | e
  · exact hq e
  · obtain ⟨cur, e', z, hh, he⟩ := own_block h0.own q e
    unfold Bx at hb
    rw [hb] at hh
    injection hh with hh
    injection hh with _ h6 _
    exact hT (h6.trans he)
end Go.Proofs.YtgmehlgfilpleaaGreatDoor
namespace Go.Proofs.YtgmehlgfilpleaaGreatDoor
open Go.ChangeShapes Go.WideShapes Go.Deep Go.RowKit
set_option linter.unusedVariables false
set_option linter.unusedSimpArgs false
section
variable {H : Type} {enc : TypeId × Value → H} {w : World} {base : Nat} {held : Bool}
/-- a datum of fixes -/
def FixDat (l : List Fx) (d : DataW H) : Prop := l = [] ∨ ∃ es sp : List (DataW H), d = .slice es sp ∧ es.length = l.length ∧ ∀ i (h : i < l.length), ∃ r : List (DataW H), es[i]? = some (.agg (.lit (.string l[i].id) :: .lit (.string l[i].rg) :: r))
set_option maxRecDepth 100000 in
theorem open_fixS {fuel : Nat} {cs : List Value} {x : DataW H × List MemPlace} (h : DataW.trod enc Tryz.prog w base (fun _ => true) held fuel 38 cs = some x) :
    ∃ (f : Fx) (r : List (DataW H)), cs = fxc f ∧ FxOk f ∧ x.1 = .agg (.lit (.string f.id) :: .lit (.string f.rg) :: r) := by
  obtain ⟨f, rfl, hok⟩ := open_fixD h
  obtain ⟨ys, n, _, hx, hl, hyl, hf⟩ := DataW.trod_struct Tryz.underlying38 h
  have h0 : DataW.trod enc Tryz.prog w base (fun _ => true) held n 9 (((fxc f).drop 0).take (Tryz.prog.cellsOf 9)) = ys[0]? := hf 0 _ rfl
  have h1 : DataW.trod enc Tryz.prog w base (fun _ => true) held n 9 (((fxc f).drop 1).take (Tryz.prog.cellsOf 9)) = ys[1]? := hf 1 _ rfl
  rw [db_cString] at h0 h1
  match ys, hyl with
  | [z0, z1, z2, z3, z4, z5], _ =>
    obtain ⟨s, e0, hz0, _⟩ := DataW.trod_string Tryz.underlying9 (show DataW.trod enc Tryz.prog w base (fun _ => true) held n 9 [.string (sb f.id)] = some z0 from h0)
    obtain ⟨t, e1, hz1, _⟩ := DataW.trod_string Tryz.underlying9 (show DataW.trod enc Tryz.prog w base (fun _ => true) held n 9 [.string (sb f.rg)] = some z1 from h1)
    obtain rfl : sb f.id = s := by simpa using e0
    obtain rfl : sb f.rg = t := by simpa using e1
    refine ⟨f, [z2.1, z3.1, z4.1, z5.1], rfl, hok, ?_⟩
    rw [hx, hz0, hz1]
    show DataW.agg [.lit (.string (bl (sb f.id))), .lit (.string (bl (sb f.rg))), z2.1, z3.1, z4.1, z5.1] = _
    rw [bl_sb, bl_sb]
theorem open_fixesS {fuel : Nat} {v : Value} {x : DataW H × List MemPlace} (h : DataW.trod enc Tryz.prog w base (fun _ => true) held fuel 26 [v] = some x) :
    ∃ l, FxsD w v l ∧ FixDat l x.1 := by
  rcases open_slice Tryz.underlying26 h with ⟨hcs, _⟩ | ⟨a, len, cap, m, n, D, Pl, hcs, hb, hl, hm, hmm, hx, hi⟩
  · obtain rfl : v = .slice none 0 0 := by simpa using hcs
    exact ⟨[], ⟨Rd.nil w 7, by simp⟩, .inl rfl⟩
  · obtain rfl : v = .slice (some a) len cap := by simpa using hcs
    obtain rfl : m = cap := hmm
    obtain ⟨l, rfl, hp⟩ := list_of (P := fun i (p : Fx) => (∀ j, j < 7 → w.cell? ((a.add (i * 7)).add j) = (fxc p)[j]?) ∧ FxOk p ∧ ∃ r : List (DataW H), D i = .agg (.lit (.string p.id) :: .lit (.string p.rg) :: r)) len (fun i hil => by
      obtain ⟨cs', hc, ht'⟩ := hi i (by omega)
      rw [db_cApiFix] at hc
      obtain ⟨_, hcl, hat⟩ := World.cells?_some hc
      obtain ⟨f, r, rfl, hok, hD⟩ := open_fixS ht'
      exact ⟨f, hat, hok, r, hD⟩)
    refine ⟨l, ⟨?_, fun p hpm => ?_⟩, .inr ⟨_, _, by rw [hx], by rw [List.length_map, List.length_range], fun i hil => ?_⟩⟩
    · have h2 := rdK_new (w := w) (a := a) (cap := m) (k := 7) (l.map fxc) (by intro c hc; rw [List.mem_map] at hc; obtain ⟨p, _, rfl⟩ := hc; rfl) (by decide) (by rw [List.length_map]; exact hl) hm (fun i hi2 j hj => by
        rw [List.length_map] at hi2
        rw [List.getElem_map]
        exact (hp i hi2).1 j hj)
      rw [List.length_map] at h2
      exact h2
    · obtain ⟨i, hi2, rfl⟩ := List.getElem_of_mem hpm
      exact (hp i hi2).2.1
    · obtain ⟨_, _, r, hD⟩ := hp i hil
      exact ⟨r, by rw [List.getElem?_map, List.getElem?_range hil, ← hD]; rfl⟩
set_option maxRecDepth 100000 in
theorem open_dbS {fuel : Nat} {cs : List Value} {x : DataW H × List MemPlace} (h : DataW.trod enc Tryz.prog w base (fun _ => true) held fuel 30 cs = some x) :
    ∃ (D : DbD) (f a p : Value) (d0 d1 d2 d3 : DataW H), cs = dbC D.hd f a p ∧ DbV w f a p D ∧ x.1 = .agg [d0, d1, d2, d3] ∧ FixDat D.fx d1 := by
  obtain ⟨D, f, a, p, rfl, hv⟩ := open_db h
  obtain ⟨ys, n, _, hx, hl, hyl, hf⟩ := DataW.trod_struct Tryz.underlying30 h
  have h1 : DataW.trod enc Tryz.prog w base (fun _ => true) held n 26 (((dbC D.hd f a p).drop 6).take (Tryz.prog.cellsOf 26)) = ys[1]? := hf 1 _ rfl
  rw [db_cSlApiFix] at h1
  match ys, hyl with
  | [z0, z1, z2, z3], _ =>
    obtain ⟨l, hl2, hd⟩ := open_fixesS (show DataW.trod enc Tryz.prog w base (fun _ => true) held n 26 [f] = some z1 from h1)
    exact ⟨{ D with fx := l }, f, a, p, z0.1, z1.1, z2.1, z3.1, rfl, ⟨hv.nm, hl2, hv.aw, hv.pr⟩, by rw [hx]; rfl, hd⟩
theorem weights_all_mem {P : Program} {e : TypeId} : ∀ {ds : List (DataW H)} {i : Nat} {d : DataW H}, ds[i]? = some d → ∀ n ∈ d.weights P e, n ∈ DataW.weightsAll P e ds
  | [], i, d, h, n, _ => by simp at h
  | d' :: ds, 0, d, h, n, hn => by
    simp only [List.getElem?_cons_zero, Option.some.injEq] at h
    subst h
    rw [DataW.weightsAll]
    exact List.mem_append_left _ hn
  | d' :: ds, i + 1, d, h, n, hn => by
    simp only [List.getElem?_cons_succ] at h
    rw [DataW.weightsAll]
    exact List.mem_append_right _ (weights_all_mem h n hn)
set_option maxRecDepth 100000 in
/-- a database that came in is no larger than a machine holds -/
theorem sized_db {ts : List TypeId} {ds : List (DataW H)} {d0 d1 d2 d3 : DataW H} {l : List Fx} (h : (DataW.weightsEach Tryz.prog ts ds).all (· ≤ reachBytes) = true) {j : Nat} (ht : ts[j]? = some 30) (hd : ds[j]? = some (.agg [d0, d1, d2, d3]))
    (hl : FixDat l d1) : SzL l := by
  have hrb : reachBytes = 140737488351232 := by decide
  rcases hl with rfl | ⟨es, sp, rfl, hlen, hes⟩
  · intro f hf; cases hf
  · intro f hf
    obtain ⟨i, hi, rfl⟩ := List.getElem_of_mem hf
    obtain ⟨r, he⟩ := hes i hi
    have key : ∀ n : Nat, n ∈ DataW.weights Tryz.prog 38 (.agg (.lit (.string l[i].id) :: .lit (.string l[i].rg) :: r) : DataW H) → n ≤ 140737488351232 := fun n hn => by
      have hmem : n ∈ DataW.weightsEach Tryz.prog ts ds := by
        refine DataW.weights_mem_each ht hd _ ?_
        rw [DataW.weights, Tryz.underlying30]
        show _ ∈ DataW.weightsEach Tryz.prog [25, 26, 27, 28] [d0, .slice es sp, d2, d3]
        refine DataW.weights_mem_each (j := 1) rfl rfl _ ?_
        rw [DataW.weights, Tryz.underlying26]
        exact List.mem_cons_of_mem _ (List.mem_append_left _ (weights_all_mem he n hn))
      have h2 := of_decide_eq_true (List.all_eq_true.1 h _ hmem)
      omega
    rw [DataW.weights, Tryz.underlying38] at key
    have k0 := key l[i].id.length (by
      show _ ∈ DataW.weightsEach Tryz.prog [9, 9, 36, 23, 2, 2] (.lit (.string l[i].id) :: .lit (.string l[i].rg) :: r)
      exact DataW.weights_mem_each (j := 0) rfl rfl _ (by rw [DataW.weights]; exact List.mem_cons_self ..))
    have k1 := key l[i].rg.length (by
      show _ ∈ DataW.weightsEach Tryz.prog [9, 9, 36, 23, 2, 2] (.lit (.string l[i].id) :: .lit (.string l[i].rg) :: r)
      exact DataW.weights_mem_each (j := 1) rfl rfl _ (by rw [DataW.weights]; exact List.mem_cons_self ..))
    omega
/-- the few of a database have sizes to count with -/
theorem fewD_sz {D : DbD} (h : SzL D.fx) : SzD (fewD D) := by
  refine ⟨h.take 24, fun p hp => ?_⟩
  obtain ⟨q, hq, rfl⟩ := List.mem_map.1 hp
  refine ⟨?_, fun x hx => ?_⟩
  · show ((q.pa.take 5).map fewP).length ≤ 1000000
    rw [List.length_map, List.length_take]; omega
  · obtain ⟨y, hy, rfl⟩ := List.mem_map.1 hx
    show (y.lg.take 6).length ≤ 1000000
    rw [List.length_take]; omega
end
end Go.Proofs.YtgmehlgfilpleaaGreatDoor
namespace Go.Proofs.YtgmehlgfilpleaaGreatDoor
open Go.RowKit
set_option linter.unusedVariables false
set_option linter.unusedSimpArgs false
theorem fstE_zero : ∀ {l : List Int}, fstE l = 0 → ∀ e ∈ l, e = 0
  | [], _, e, he => by cases he
  | x :: t, h, e, he => by
    by_cases hx : x = 0
    · subst hx
      rw [fstE_z] at h
      rcases List.mem_cons.1 he with rfl | he
      · rfl
      · exact fstE_zero h e he
    · rw [fstE_n hx] at h; exact absurd h hx
/-! ### how long -/
theorem getDAt {α : Type} {l : List α} {k : Nat} (h : k < l.length) (d : α) : l.getD k d = l[k] := by rw [List.getD_eq_getElem?_getD, List.getElem?_eq_getElem h]; rfl
theorem ordE_gt {c : Int} (h : ordE c = 0) : 0 < c := by
  unfold ordE at h
  split at h
  · cases h
  · split at h
    · cases h
    · omega
theorem cmpS_gt {a b : List UInt8} (h : 0 < cmpS a b) : b < a := by
  unfold cmpS at h
  split at h
  · omega
  · rename_i h1
    split at h
    · assumption
    · omega
/-- each key is behind the one ahead of it -/
theorem asc_all {key : Nat → List UInt8} {n : Nat} (h : ∀ k, 0 < k → k < n → key (k - 1) < key k) : ∀ k, k < n → ∀ j, j < k → key j < key k
  | 0, _, j, hj => by omega
  | k + 1, hk, j, hj => by
    have h1 := h (k + 1) (by omega) hk
    rw [Nat.add_sub_cancel] at h1
    by_cases e : j = k
    · rw [e]; exact h1
    · exact List.lt_trans (asc_all h k (by omega) j (by omega)) h1
theorem find_asc {l : List Fx} (h : ∀ k (hk : k < l.length), ∀ j (hj : j < k), fxRef (l[j]'(by omega)) < fxRef l[k]) {k : Nat} (hk : k < l.length) : findL l (fxRef l[k]) = some l[k] := by
  unfold findL
  rw [List.find?_eq_some_iff_getElem]
  refine ⟨by simp, k, hk, rfl, fun j hj => ?_⟩
  have h1 := h k hk j hj
  have h2 : fxRef (l[j]'(by omega)) ≠ fxRef l[k] := fun e => by rw [e] at h1; exact absurd h1 (List.lt_irrefl _)
  simp [h2]
theorem find_rfs {l : List Fx} {r : List UInt8} (h : rfsB l r = true) : ∃ f, f ∈ l ∧ findL l r = some f := by
  unfold rfsB at h
  rw [List.any_eq_true] at h
  obtain ⟨f, hf, he⟩ := h
  have hs : (findL l r).isSome = true := by
    unfold findL
    rw [List.find?_isSome]
    exact ⟨f, hf, he⟩
  obtain ⟨g, hg⟩ := Option.isSome_iff_exists.1 hs
  exact ⟨g, List.mem_of_find?_eq_some hg, hg⟩
section
variable {d : DbD}
theorem dbE_parts (h : dbE d = 0) : allE (fx1E d.hd.la d.hd.lo d.fx) d.fx.length = 0 ∧ allE (aw1E d.fx d.aw) d.aw.length = 0 ∧ allE (pr1E d.fx d.pr) d.pr.length = 0 := by
  unfold dbE at h
  have hz := fstE_zero h
  exact ⟨hz _ (by simp), hz _ (by simp), hz _ (by simp)⟩
theorem parts_fx (h : dbE d = 0) {k : Nat} (hk : k < d.fx.length) : fixE d.fx[k] = 0 ∧ toE d.hd.la d.hd.lo d.fx[k].lat d.fx[k].lon = 0 := by
  have h1 := allE_zero (dbE_parts h).1 k hk
  unfold fx1E at h1
  have hz := fstE_zero h1
  have a1 := hz _ (List.mem_cons_self ..)
  have a3 := hz _ (List.mem_cons_of_mem _ (List.mem_cons_of_mem _ (List.mem_cons_self ..)))
  rw [getDAt hk] at a1 a3
  refine ⟨a1, ?_⟩
  unfold plcE at a3
  split at a3
  · rename_i hn; exact absurd a3 hn
  · rename_i hn; exact Classical.byContradiction hn
theorem parts_asc (h : dbE d = 0) : ∀ k (hk : k < d.fx.length), ∀ j (hj : j < k), fxRef (d.fx[j]'(by omega)) < fxRef d.fx[k] := by
  have key : ∀ k, 0 < k → k < d.fx.length → fxRef (d.fx.getD (k - 1) fx0) < fxRef (d.fx.getD k fx0) := by
    intro k h0 hk
    have h1 := allE_zero (dbE_parts h).1 k hk
    unfold fx1E at h1
    have hz := fstE_zero h1
    have a2 := hz _ (List.mem_cons_of_mem _ (List.mem_cons_self ..))
    rw [if_neg (by omega)] at a2
    exact cmpS_gt (ordE_gt a2)
  intro k hk j hj
  have : fxRef (d.fx.getD j fx0) < fxRef (d.fx.getD k fx0) := asc_all (key := fun k => fxRef (d.fx.getD k fx0)) key k hk j hj
  rw [getDAt hk, getDAt (by omega)] at this
  exact this
theorem parts_find (h : dbE d = 0) {k : Nat} (hk : k < d.fx.length) : findL d.fx (fxRef d.fx[k]) = some d.fx[k] := find_asc (parts_asc h) hk
theorem parts_to (h : dbE d = 0) {f : Fx} (hf : f ∈ d.fx) : toE d.hd.la d.hd.lo f.lat f.lon = 0 := by
  obtain ⟨k, hk, rfl⟩ := List.getElem_of_mem hf
  exact (parts_fx h hk).2
theorem parts_aw (h : dbE d = 0) {k : Nat} (hk : k < d.aw.length) : chkA d.aw[k].nm d.aw[k].ps = 0 ∧ ∀ p ∈ d.aw[k].ps, ∃ f, f ∈ d.fx ∧ findL d.fx p.ref = some f := by
  have h1 := allE_zero (dbE_parts h).2.1 k hk
  unfold aw1E at h1
  have hz := fstE_zero h1
  have a1 := hz _ (List.mem_cons_self ..)
  have a3 := hz _ (List.mem_cons_of_mem _ (List.mem_cons_of_mem _ (List.mem_cons_self ..)))
  rw [getDAt hk] at a1 a3
  refine ⟨a1, fun p hp => ?_⟩
  split at a3
  · rename_i ha
    exact find_rfs (List.all_eq_true.1 ha p hp)
  · cases a3
theorem parts_pr (h : dbE d = 0) {k : Nat} (hk : k < d.pr.length) : prcE d.pr[k] = 0 ∧ ∀ x ∈ d.pr[k].pa, ∀ g ∈ x.lg, g.fi = [] ∨ ∃ f, f ∈ d.fx ∧ findL d.fx g.fi = some f := by
  have h1 := allE_zero (dbE_parts h).2.2 k hk
  unfold pr1E at h1
  have hz := fstE_zero h1
  have a1 := hz _ (List.mem_cons_self ..)
  have a5 := hz _ (List.mem_cons_of_mem _ (List.mem_cons_of_mem _ (List.mem_cons_of_mem _ (List.mem_cons_of_mem _ (List.mem_cons_self ..)))))
  rw [getDAt hk] at a1 a5
  refine ⟨a1, fun x hx g hg => ?_⟩
  split at a5
  · rename_i ha
    have h2 := List.all_eq_true.1 (List.all_eq_true.1 ha x hx) g hg
    unfold lgOkB hasB at h2
    simp only [Bool.and_eq_true, Bool.or_eq_true, decide_eq_true_eq] at h2
    rcases h2.1 with h3 | h3
    · exact .inl h3
    · exact .inr (find_rfs h3)
  · cases a5
end
end Go.Proofs.YtgmehlgfilpleaaGreatDoor
