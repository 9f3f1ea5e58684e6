/-
  Several texts as one.
-/
import Derived.Laws.BitsAllLaws
import Derived.Test.YtlhniiakacbbeaaGreatDoorMG17
import Derived.Test.YtlhniiakacbbeaaGreatDoorLegC
import Derived.Test.YtlhniiakacbbeaaGreatDoorMG01
import Derived.OpenShut
import Derived.ShutString
import Derived.Deep.Slices
import Derived.Deep.Fields
import Derived.ChangeSame
import Derived.ChangeArms
import Derived.Carry
namespace Go.Proofs.YtlhniiakacbbeaaGreatDoor
set_option linter.unusedVariables false
set_option linter.unusedSimpArgs false
abbrev RS := Nat × Bool
def tkS (st n : Nat) (s : RS) : RS := if s.2 = true ∨ st - s.1 < n then (s.1, true) else (s.1 + n, false)
def tkV (bs : List UInt8) (st n : Nat) (s : RS) : List UInt8 := if s.2 = true ∨ st - s.1 < n then [] else (bs.drop s.1).take n
def byV (bs : List UInt8) (st : Nat) (s : RS) : UInt8 := (tkV bs st 1 s).headD 0
def loN : List UInt8 → Nat
 | [] => 0
 | b :: t => b.toNat + 256 * loN t
def n8V (bs : List UInt8) (st : Nat) (s : RS) : Int := IntKind.i64.wrap (loN (tkV bs st 8 s))
def txS (bs : List UInt8) (st : Nat) (s : RS) : RS := tkS st (byV bs st s).toNat (tkS st 1 s)
def txV (bs : List UInt8) (st : Nat) (s : RS) : List UInt8 := tkV bs st (byV bs st s).toNat (tkS st 1 s)
def n8S (st : Nat) (s : RS) : RS := tkS st 8 s
def fiS (bs : List UInt8) (st : Nat) (s : RS) : RS := n8S st (n8S st (n8S st (n8S st (tkS st 1 (txS bs st (txS bs st s))))))
def ptS (bs : List UInt8) (st : Nat) (s : RS) : RS := tkS st 1 (n8S st (n8S st (txS bs st s)))
def ovS (bs : List UInt8) (st : Nat) (s : RS) : RS := if 1 < (byV bs st s).toNat then ((tkS st 1 s).1, true) else tkS st 1 s
def n8x (st : Nat) : Nat → RS → RS
 | 0, s => s
 | k + 1, s => n8x st k (n8S st s)
def leS (bs : List UInt8) (st : Nat) (s : RS) : RS := n8x st 8 (ovS bs st (tkS st 1 (txS bs st (txS bs st (tkS st 1 s)))))
def itS (one : RS → RS) : Nat → RS → RS
 | 0, s => s
 | n + 1, s => if s.2 = true then s else itS one n (one s)
def lsN (bs : List UInt8) (st : Nat) (s : RS) : Nat := loN (tkV bs st 2 s)
def lsS (bs : List UInt8) (st : Nat) (one : RS → RS) (s : RS) : RS := itS one (lsN bs st s) (tkS st 2 s)
def awS (bs : List UInt8) (st : Nat) (s : RS) : RS := lsS bs st (ptS bs st) (txS bs st s)
def imPaS (bs : List UInt8) (st : Nat) (s : RS) : RS := lsS bs st (leS bs st) (txS bs st (tkS st 1 s))
def prS (bs : List UInt8) (st : Nat) (s : RS) : RS := lsS bs st (imPaS bs st) (tkS st 1 (txS bs st (txS bs st s)))
def hdS (bs : List UInt8) (st : Nat) (s : RS) : RS := n8x st 5 (txS bs st s)
structure ImHd where
 nm : List UInt8
 cy : Int
 fr : Int
 tu : Int
 la : Int
 lo : Int
def hd0 : ImHd := ⟨[], 0, 0, 0, 0, 0⟩
def hdV (bs : List UInt8) (st : Nat) (s : RS) : ImHd := ⟨txV bs st s, n8V bs st (txS bs st s), n8V bs st (n8x st 1 (txS bs st s)), n8V bs st (n8x st 2 (txS bs st s)), n8V bs st (n8x st 3 (txS bs st s)), n8V bs st (n8x st 4 (txS bs st s))⟩
def secS (bs : List UInt8) (st tag : Nat) (s : RS) : RS :=
 if tag = 1 then hdS bs st s else if tag = 2 then lsS bs st (fiS bs st) s else if tag = 3 then lsS bs st (awS bs st) s else lsS bs st (prS bs st) s
def secN (bs : List UInt8) (st tag : Nat) (s : RS) : Nat := if tag = 1 then 1 else lsN bs st s
abbrev Sec := Nat × Nat × Nat × Nat
def rdG (bs : List UInt8) : Nat → Nat → Nat → Option (List Sec)
 | 0, _, a => if a = bs.length then some [] else none
 | k + 1, tag, a =>
  if (tkS bs.length 4 (tkS bs.length 1 (a, false))).2 = true ∨ (byV bs bs.length (a, false)).toNat ≠ tag ∨ bs.length - (a + 5) < loN (tkV bs bs.length 4 (a + 1, false)) then none
  else if (secS bs (a + 5 + loN (tkV bs bs.length 4 (a + 1, false))) tag (a + 5, false)).2 = true ∨ (secS bs (a + 5 + loN (tkV bs bs.length 4 (a + 1, false))) tag (a + 5, false)).1 ≠ a + 5 + loN (tkV bs bs.length 4 (a + 1, false)) then none
  else (rdG bs k (tag + 1) (a + 5 + loN (tkV bs bs.length 4 (a + 1, false)))).map ((tag, a + 5, loN (tkV bs bs.length 4 (a + 1, false)), secN bs (a + 5 + loN (tkV bs bs.length 4 (a + 1, false))) tag (a + 5, false)) :: ·)
def magicL : List UInt8 := [70, 68, 66, 49]
def imHdF (bs : List UInt8) : ImHd := hdV bs (9 + loN (tkV bs bs.length 4 (5, false))) (9, false)
def rdF (bs : List UInt8) : Option (ImHd × List Sec) := if bs.take 4 = magicL then (rdG bs 4 1 4).map fun l => (imHdF bs, l) else none
theorem tkS_bad {st n : Nat} {s : RS} (h : s.2 = true) : tkS st n s = s := by
 unfold tkS; rw [if_pos (.inl h)]; obtain ⟨a, b⟩ := s; cases h; rfl
theorem tkS_no {st n a : Nat} {b : Bool} (h : b = true ∨ st - a < n) : tkS st n (a, b) = (a, true) := by unfold tkS; rw [if_pos h]
theorem tkS_yes {st n a : Nat} (h : ¬ st - a < n) : tkS st n (a, false) = (a + n, false) := by unfold tkS; rw [if_neg (by simpa using h)]
theorem tkV_no {bs : List UInt8} {st n a : Nat} {b : Bool} (h : b = true ∨ st - a < n) : tkV bs st n (a, b) = [] := by unfold tkV; rw [if_pos h]
theorem tkV_yes {bs : List UInt8} {st n a : Nat} (h : ¬ st - a < n) : tkV bs st n (a, false) = (bs.drop a).take n := by unfold tkV; rw [if_neg (by simpa using h)]
theorem tkV_len {bs : List UInt8} {st n : Nat} {s : RS} : (tkV bs st n s).length ≤ n := by
 unfold tkV; split
 ·simp
 ·rw [List.length_take]; omega
theorem itS_bad {one : RS → RS} {n : Nat} {s : RS} (h : s.2 = true) : itS one n s = s := by
 cases n with
 | zero => rfl
 | succ n => unfold itS; rw [if_pos h]
theorem itS_more {one : RS → RS} {n : Nat} {a : Nat} : itS one (n + 1) (a, false) = itS one n (one (a, false)) := by
 conv => lhs; unfold itS
 rw [if_neg (by simp)]
theorem loN_lt : ∀ (l : List UInt8), loN l < 256 ^ l.length
 | [] => by simp [loN]
 | b :: t => by
  have h1 := b.toNat_lt
  have h2 := loN_lt t
  show b.toNat + 256 * loN t < 256 ^ (t.length + 1)
  rw [Nat.pow_succ]; omega
theorem loN_snoc (l : List UInt8) (b : UInt8) : loN (l ++ [b]) = loN l + b.toNat * 256 ^ l.length := by
 induction l with
 | nil => simp [loN]
 | cons c l ih =>
  show c.toNat + 256 * loN (l ++ [b]) = c.toNat + 256 * loN l + b.toNat * 256 ^ (l.length + 1)
  rw [ih, Nat.pow_succ, Nat.mul_add]
  rw [show 256 * (b.toNat * 256 ^ l.length) = b.toNat * (256 ^ l.length * 256) by rw [Nat.mul_left_comm, Nat.mul_comm 256]]
  omega
theorem lsN_lt {bs : List UInt8} {st : Nat} {s : RS} : lsN bs st s < 65536 := by
 have h1 := loN_lt (tkV bs st 2 s)
 have h2 : (tkV bs st 2 s).length ≤ 2 := tkV_len
 unfold lsN
 have : 256 ^ (tkV bs st 2 s).length ≤ 256 ^ 2 := Nat.pow_le_pow_right (by omega) h2
 omega
theorem rdG_more {bs : List UInt8} {k tag a n : Nat} (h0 : ¬ (tkS bs.length 4 (tkS bs.length 1 (a, false))).2 = true) (h1 : (byV bs bs.length (a, false)).toNat = tag) (hn : loN (tkV bs bs.length 4 (a + 1, false)) = n) (h2 : ¬ bs.length - (a + 5) < n)
  (h3 : ¬ (secS bs (a + 5 + n) tag (a + 5, false)).2 = true) (h4 : (secS bs (a + 5 + n) tag (a + 5, false)).1 = a + 5 + n) :
  rdG bs (k + 1) tag a = (rdG bs k (tag + 1) (a + 5 + n)).map ((tag, a + 5, n, secN bs (a + 5 + n) tag (a + 5, false)) :: ·) := by
 subst hn
 conv => lhs; unfold rdG
 rw [if_neg (by simp only [not_or]; exact ⟨h0, by simpa using h1, h2⟩), if_neg (by simp only [not_or]; exact ⟨h3, by simpa using h4⟩)]
theorem rdG_form {bs : List UInt8} {k tag a : Nat} (h : (tkS bs.length 4 (tkS bs.length 1 (a, false))).2 = true ∨ (byV bs bs.length (a, false)).toNat ≠ tag ∨ bs.length - (a + 5) < loN (tkV bs bs.length 4 (a + 1, false))) : rdG bs (k + 1) tag a = none := by
 conv => lhs; unfold rdG
 rw [if_pos h]
theorem rdG_sec {bs : List UInt8} {k tag a n : Nat} (hn : loN (tkV bs bs.length 4 (a + 1, false)) = n) (h : (secS bs (a + 5 + n) tag (a + 5, false)).2 = true ∨ (secS bs (a + 5 + n) tag (a + 5, false)).1 ≠ a + 5 + n) : rdG bs (k + 1) tag a = none := by
 subst hn
 conv => lhs; unfold rdG
 split
 ·rfl
 ·first | rfl | (rw [if_pos h])
end Go.Proofs.YtlhniiakacbbeaaGreatDoor
namespace Go.Proofs.YtlhniiakacbbeaaGreatDoor
open Go.RowKit
set_option linter.unusedVariables false
set_option linter.unusedSimpArgs false

theorem infoFix : (Tryz.prog.info? 38).map (fun i => (i.zero, i.size, i.bytes)) = some (some (.agg #[.string ⟨#[]⟩, .string ⟨#[]⟩, .int .u8 0, .int .i64 0, .int .i64 0, .int .i64 0, .int .i64 0]), 7, 72) := by kernel_rfl
theorem fxcells_len (l : List Fx) : (fxcells l).length = l.length * 7 := by
 induction l with
 | nil => rfl
 | cons p l ih =>
  show (fxc p ++ fxcells l).length = _
  rw [List.length_append, ih, List.length_cons]
  show 7 + _ = _
  omega
theorem fxcells_at (l : List Fx) : ∀ (k : Nat) (h : k < l.length) (j : Nat), j < 7 → (fxcells l)[k * 7 + j]? = (fxc l[k])[j]? := by
 induction l with
 | nil => intro k h; simp at h
 | cons p l ih =>
  intro k h j hj
  show (fxc p ++ fxcells l)[k * 7 + j]? = _
  have hl : (fxc p).length = 7 := rfl
  cases k with
  | zero => rw [Nat.zero_mul, Nat.zero_add, List.getElem?_append_left (by omega)]; rfl
  | succ k =>
   rw [List.getElem?_append_right (by omega), hl, show (k + 1) * 7 + j - 7 = k * 7 + j by omega]
   exact ih k (by simpa using h) j hj
def FxsR (w : World) (v : Value) (l : List Fx) : Prop := Rd w 7 v l.length (fxcells l)
theorem FxsR.below {w w' : World} {v : Value} {l : List Fx} (h : FxsR w v l) (hb : Below w.heap.size w w') : FxsR w' v l := Rd.below h hb
theorem FxsR.form {w : World} {v : Value} {l : List Fx} (h : FxsR w v l) : ∃ A c, v = .slice A l.length c ∧ l.length ≤ c ∧ c ≤ 9223372036854775807 := by
 obtain ⟨A, c, hv, hc, hm⟩ := Rd.form h
 unfold maxLen at hm
 exact ⟨A, c, hv, hc, by omega⟩
structure FxAt (w : World) (g o : Nat) (f : Fx) : Prop where
 c0 : w.cell? ⟨g, o, none⟩ = some (.string (sb f.id))
 c1 : w.cell? ⟨g, o + 1, none⟩ = some (.string (sb f.rg))
 c2 : w.cell? ⟨g, o + 2, none⟩ = some (.int .u8 (f.kd : Int))
 c3 : w.cell? ⟨g, o + 3, none⟩ = some (.int .i64 f.lat)
 c4 : w.cell? ⟨g, o + 4, none⟩ = some (.int .i64 f.lon)
 c5 : w.cell? ⟨g, o + 5, none⟩ = some (.int .i64 f.el)
 c6 : w.cell? ⟨g, o + 6, none⟩ = some (.int .i64 f.ra)
theorem FxsR.at_ {w : World} {v : Value} {l : List Fx} (h : FxsR w v l) {k : Nat} (hk : k < l.length) : ∃ g o c, v = .slice (some ⟨g, o, none⟩) l.length c ∧ g < w.heap.size ∧ FxAt w g (o + k * 7) l[k] := by
 obtain ⟨hl, A, c, hv, hc, hm, hr⟩ := h
 obtain ⟨g, o, rfl, hg, hx⟩ := hr (by omega)
 have key : ∀ j u, j < 7 → (fxc l[k])[j]? = some u → w.cell? ⟨g, o + k * 7 + j, none⟩ = some u := fun j u hj hu => by
  have := hx (k * 7 + j) u (by rw [fxcells_at l k hk j hj]; exact hu)
  rwa [← Nat.add_assoc] at this
 exact ⟨g, o, c, hv, hg, key 0 _ (by omega) rfl, key 1 _ (by omega) rfl, key 2 _ (by omega) rfl, key 3 _ (by omega) rfl, key 4 _ (by omega) rfl, key 5 _ (by omega) rfl, key 6 _ (by omega) rfl⟩
theorem FxAt.below {w w' : World} {g o : Nat} {f : Fx} (h : FxAt w g o f) (hg : g < w.heap.size) {B : Nat} (hb : Below B w w') (hB : g < B) : FxAt w' g o f := by
 have k : ∀ j, w'.cell? ⟨g, j, none⟩ = w.cell? ⟨g, j, none⟩ := fun j => hb.cell (p := ⟨g, j, none⟩) hB
 exact ⟨(k _).trans h.c0, (k _).trans h.c1, (k _).trans h.c2, (k _).trans h.c3, (k _).trans h.c4, (k _).trans h.c5, (k _).trans h.c6⟩
def SzL (l : List Fx) : Prop := ∀ f ∈ l, f.id.length ≤ 1000000000000000 ∧ f.rg.length ≤ 1000000000000000
theorem SzL.take {l : List Fx} (h : SzL l) (n : Nat) : SzL (l.take n) := fun f hf => h f (List.mem_of_mem_take hf)
theorem SzL.get {l : List Fx} (h : SzL l) {k : Nat} (hk : k < l.length) : l[k].id.length ≤ 1000000000000000 ∧ l[k].rg.length ≤ 1000000000000000 := h _ (List.getElem_mem hk)
def FindPost (o : Option Fx) (w : World) (e : Ending) (w' : World) : Prop :=
 e = .returned (.tuple #[.agg #[.string (sb (o.getD fx0).id), .string (sb (o.getD fx0).rg), .int .u8 ((o.getD fx0).kd : Int), .int .i64 (o.getD fx0).lat, .int .i64 (o.getD fx0).lon, .int .i64 (o.getD fx0).el, .int .i64 (o.getD fx0).ra], .bool o.isSome]) ∧ Below w.heap.size w w'
theorem FindPost.some {o : Option Fx} {w w' : World} {p : Fx} (h : o = some p) (hb : Below w.heap.size w w') :
  FindPost o w (.returned (.tuple #[.agg #[.string (sb p.id), .string (sb p.rg), .int .u8 (p.kd : Int), .int .i64 p.lat, .int .i64 p.lon, .int .i64 p.el, .int .i64 p.ra], .bool true])) w' := by subst h; exact ⟨rfl, hb⟩
theorem FindPost.none {o : Option Fx} {w w' : World} (h : o = none) (hb : Below w.heap.size w w') :
  FindPost o w (.returned (.tuple #[.agg #[.string ⟨#[]⟩, .string ⟨#[]⟩, .int .u8 0, .int .i64 0, .int .i64 0, .int .i64 0, .int .i64 0], .bool false])) w' := by subst h; exact ⟨rfl, hb⟩
structure Pa where
 kd : Nat
 nm : List UInt8
 lg : List Lg
structure Prc where
 ap : List UInt8
 nm : List UInt8
 kd : Nat
 pa : List Pa
structure AwD where
 nm : List UInt8
 ps : List Pt
structure DbD where
 hd : ImHd
 fx : List Fx
 aw : List AwD
 pr : List Prc
def pac (p : Value × Pa) : List Value := [.int .u8 (p.2.kd : Int), .string (sb p.2.nm), p.1]
def prc (p : Value × Prc) : List Value := [.string (sb p.2.ap), .string (sb p.2.nm), .int .u8 (p.2.kd : Int), p.1]
def awc (p : Value × AwD) : List Value := [.string (sb p.2.nm), p.1]
def PtOkD (p : Pt) : Prop := p.ref.length ≤ maxLen ∧ p.dir < 256
def FxOk (f : Fx) : Prop := f.id.length ≤ maxLen ∧ f.rg.length ≤ maxLen ∧ f.kd < 256
def LgsR (w : World) (v : Value) (l : List Lg) : Prop := Rd w 13 v l.length (l.flatMap lgc) ∧ ∀ x ∈ l, LgOk x
def PaOk (w : World) (p : Value × Pa) : Prop := p.2.nm.length ≤ maxLen ∧ p.2.kd < 256 ∧ LgsR w p.1 p.2.lg
def PasR (w : World) (v : Value) (l : List Pa) : Prop := ∃ L : List (Value × Pa), l = L.map (·.2) ∧ Rd w 3 v L.length (L.flatMap pac) ∧ ∀ x ∈ L, PaOk w x
def PrcOk (w : World) (p : Value × Prc) : Prop := p.2.ap.length ≤ maxLen ∧ p.2.nm.length ≤ maxLen ∧ p.2.kd < 256 ∧ PasR w p.1 p.2.pa
def PrcsR (w : World) (v : Value) (l : List Prc) : Prop := ∃ L : List (Value × Prc), l = L.map (·.2) ∧ Rd w 4 v L.length (L.flatMap prc) ∧ ∀ x ∈ L, PrcOk w x
def AwOk (w : World) (p : Value × AwD) : Prop := p.2.nm.length ≤ maxLen ∧ PtsR w p.1 p.2.ps
def AwsD (w : World) (v : Value) (l : List AwD) : Prop := ∃ L : List (Value × AwD), l = L.map (·.2) ∧ Rd w 2 v L.length (L.flatMap awc) ∧ ∀ x ∈ L, AwOk w x
def FxsD (w : World) (v : Value) (l : List Fx) : Prop := Rd w 7 v l.length (l.flatMap fxc) ∧ ∀ x ∈ l, FxOk x
def hdD (h : ImHd) : List Value := [.string (sb h.nm), .int .i64 h.cy, .int .i64 h.fr, .int .i64 h.tu, .int .i64 h.la, .int .i64 h.lo]
def dbC (h : ImHd) (f a p : Value) : List Value := [.string (sb h.nm), .int .i64 h.cy, .int .i64 h.fr, .int .i64 h.tu, .int .i64 h.la, .int .i64 h.lo, f, a, p]
structure DbV (w : World) (f a p : Value) (D : DbD) : Prop where
 nm : D.hd.nm.length ≤ maxLen
 fx : FxsD w f D.fx
 aw : AwsD w a D.aw
 pr : PrcsR w p D.pr
section
variable {w w' : World}
theorem LgsR.below {v : Value} {l : List Lg} (h : LgsR w v l) (hb : Below w.heap.size w w') : LgsR w' v l := ⟨h.1.below hb, h.2⟩
theorem PasR.below {v : Value} {l : List Pa} (h : PasR w v l) (hb : Below w.heap.size w w') : PasR w' v l := by
 obtain ⟨L, h1, h2, h3⟩ := h
 exact ⟨L, h1, h2.below hb, fun x hx => ⟨(h3 x hx).1, (h3 x hx).2.1, (h3 x hx).2.2.below hb⟩⟩
theorem PrcsR.below {v : Value} {l : List Prc} (h : PrcsR w v l) (hb : Below w.heap.size w w') : PrcsR w' v l := by
 obtain ⟨L, h1, h2, h3⟩ := h
 exact ⟨L, h1, h2.below hb, fun x hx => ⟨(h3 x hx).1, (h3 x hx).2.1, (h3 x hx).2.2.1, (h3 x hx).2.2.2.below hb⟩⟩
theorem AwsD.below {v : Value} {l : List AwD} (h : AwsD w v l) (hb : Below w.heap.size w w') : AwsD w' v l := by
 obtain ⟨L, h1, h2, h3⟩ := h
 exact ⟨L, h1, h2.below hb, fun x hx => ⟨(h3 x hx).1, (h3 x hx).2.below hb⟩⟩
theorem FxsD.below {v : Value} {l : List Fx} (h : FxsD w v l) (hb : Below w.heap.size w w') : FxsD w' v l := ⟨h.1.below hb, h.2⟩
theorem DbV.below {f a p : Value} {D : DbD} (h : DbV w f a p D) (hb : Below w.heap.size w w') : DbV w' f a p D := ⟨h.nm, h.fx.below hb, h.aw.below hb, h.pr.below hb⟩
end
end Go.Proofs.YtlhniiakacbbeaaGreatDoor
namespace Go.Proofs.YtlhniiakacbbeaaGreatDoor
open Go.ChangeShapes Go.WideShapes Go.Deep Go.RowKit
set_option linter.unusedVariables false
set_option linter.unusedSimpArgs false
theorem u8_bd {d : Int} (hd : (Lit.int .u8 d).wf = true) : 0 ≤ d ∧ d < 256 := by
 have e1 : IntKind.u8.min = 0 := by decide
 have e2 : IntKind.u8.max = 255 := by decide
 simp [Lit.wf] at hd
 omega
section
variable {H : Type} {enc : TypeId × Value → H} {P : Program} {w : World} {base : Nat} {spare : Nat → Bool} {held : Bool}
theorem open_rowsD {t e : TypeId} {k fuel : Nat} {v : Value} {x : DataW H × List MemPlace} (ht : P.underlying t = some (.slice e)) (hk : P.cellsOf e = k) (h : DataW.trod enc P w base (fun _ => true) held fuel t [v] = some x) :
  (v = .slice none 0 0) ∨ ∃ (a : Addr) (len cap n : Nat), v = .slice (some a) len cap ∧ len ≤ cap ∧ cap ≤ maxLen ∧
   ∀ i, i < len → ∃ (cs : List Value) (y : DataW H × List MemPlace), cs.length = k ∧ (∀ j, j < k → w.cell? ((a.add (i * k)).add j) = cs[j]?) ∧ DataW.trod enc P w base (fun _ => true) held n e cs = some y := by
 rcases open_slice ht h with ⟨hcs, _⟩ | ⟨a, len, cap, m, n, D, Pl, hcs, hb, hl, hm, hmm, hx, hi⟩
 ·left; simpa using hcs
 ·right
  obtain rfl : v = .slice (some a) len cap := by simpa using hcs
  refine ⟨a, len, cap, n, rfl, hl, hm, fun i hil => ?_⟩
  obtain rfl : m = cap := hmm
  obtain ⟨cs', hc, ht'⟩ := hi i (by omega)
  rw [hk] at hc
  obtain ⟨_, hcl, hat⟩ := World.cells?_some hc
  exact ⟨cs', _, hcl, hat, ht'⟩
theorem open_listD {α : Type} {t e : TypeId} {k fuel : Nat} {v : Value} {x : DataW H × List MemPlace} (cf : α → List Value) (Q : α → Prop) (ht : P.underlying t = some (.slice e)) (hk : P.cellsOf e = k) (h0 : 0 < k) (hcf : ∀ a, (cf a).length = k)
  (ho : ∀ (n : Nat) (cs : List Value) (y : DataW H × List MemPlace), DataW.trod enc P w base (fun _ => true) held n e cs = some y → ∃ a, cs = cf a ∧ Q a)
  (h : DataW.trod enc P w base (fun _ => true) held fuel t [v] = some x) : ∃ l : List α, Rd w k v l.length (l.flatMap cf) ∧ ∀ a ∈ l, Q a := by
 rcases open_rowsD ht hk h with rfl | ⟨a, len, cap, n, rfl, hl, hm, hi⟩
 ·exact ⟨[], Rd.nil w k, by simp⟩
 ·obtain ⟨l, rfl, hp⟩ := list_of (P := fun i (p : α) => (∀ j, j < k → w.cell? ((a.add (i * k)).add j) = (cf p)[j]?) ∧ Q p) len (fun i hil => by
   obtain ⟨cs, y, _, hc, ht⟩ := hi i hil
   obtain ⟨p, rfl, h1⟩ := ho n cs y ht
   exact ⟨p, hc, h1⟩)
  refine ⟨l, ?_, fun p hpm => ?_⟩
  ·have h2 := rdK_new (w := w) (a := a) (cap := cap) (k := k) (l.map cf) (by intro c hc; rw [List.mem_map] at hc; obtain ⟨p, _, rfl⟩ := hc; exact hcf p) h0 (by rw [List.length_map]; exact hl) hm (fun i hi2 j hj => by
    rw [List.length_map] at hi2
    rw [List.getElem_map]
    exact (hp i hi2).1 j hj)
   rw [List.length_map] at h2
   exact h2
  ·obtain ⟨i, hi2, rfl⟩ := List.getElem_of_mem hpm
   exact (hp i hi2).2
end
section
variable {H : Type} {enc : TypeId × Value → H} {w : World} {base : Nat} {held : Bool}
theorem db_cLegType : Tryz.prog.cellsOf 63 = 1 := by kernel_rfl
theorem db_cString : Tryz.prog.cellsOf 9 = 1 := by kernel_rfl
theorem db_cU8 : Tryz.prog.cellsOf 5 = 1 := by kernel_rfl
theorem db_cBool : Tryz.prog.cellsOf 4 = 1 := by kernel_rfl
theorem db_cI64 : Tryz.prog.cellsOf 2 = 1 := by kernel_rfl
theorem db_cWindow : Tryz.prog.cellsOf 51 = 2 := by kernel_rfl
theorem db_cApiLeg : Tryz.prog.cellsOf 65 = 13 := by kernel_rfl
theorem lgc_len (l : Lg) : (lgc l).length = 13 := rfl
theorem db_cPartKind : Tryz.prog.cellsOf 59 = 1 := by kernel_rfl
theorem db_cSlApiLeg : Tryz.prog.cellsOf 60 = 1 := by kernel_rfl
theorem db_cApiPart : Tryz.prog.cellsOf 62 = 3 := by kernel_rfl
theorem pac_len (l : Value × Pa) : (pac l).length = 3 := rfl
theorem db_cProcKind : Tryz.prog.cellsOf 54 = 1 := by kernel_rfl
theorem db_cSlApiPart : Tryz.prog.cellsOf 55 = 1 := by kernel_rfl
theorem db_cApiProcedure : Tryz.prog.cellsOf 57 = 4 := by kernel_rfl
theorem prc_len (l : Value × Prc) : (prc l).length = 4 := rfl
theorem db_cApiAirwaypoint : Tryz.prog.cellsOf 53 = 4 := by kernel_rfl
theorem ptc_len (l : Pt) : (ptc l).length = 4 := rfl
theorem db_cSlApiAirwaypoint : Tryz.prog.cellsOf 46 = 1 := by kernel_rfl
theorem db_cApiAirway : Tryz.prog.cellsOf 48 = 2 := by kernel_rfl
theorem awc_len (l : Value × AwD) : (awc l).length = 2 := rfl
theorem db_cApiKind : Tryz.prog.cellsOf 36 = 1 := by kernel_rfl
theorem db_cPos : Tryz.prog.cellsOf 23 = 2 := by kernel_rfl
theorem db_cApiFix : Tryz.prog.cellsOf 38 = 7 := by kernel_rfl
set_option maxRecDepth 100000 in
theorem open_fixD {fuel : Nat} {cs : List Value} {x : DataW H × List MemPlace} (h : DataW.trod enc Tryz.prog w base (fun _ => true) held fuel 38 cs = some x) : ∃ f : Fx, cs = fxc f ∧ FxOk f := by
 obtain ⟨ys, n, _, _, hl, hyl, hf⟩ := DataW.trod_struct Tryz.underlying38 h
 rw [db_cApiFix] at hl
 match cs, hl with
 | [c0, c1, c2, c3, c4, c5, c6], _ =>
  have h0 : DataW.trod enc Tryz.prog w base (fun _ => true) held n 9 (([c0, c1, c2, c3, c4, c5, c6].drop 0).take (Tryz.prog.cellsOf 9)) = ys[0]? := hf 0 _ rfl
  rw [db_cString] at h0
  have h1 : DataW.trod enc Tryz.prog w base (fun _ => true) held n 9 (([c0, c1, c2, c3, c4, c5, c6].drop 1).take (Tryz.prog.cellsOf 9)) = ys[1]? := hf 1 _ rfl
  rw [db_cString] at h1
  have h2 : DataW.trod enc Tryz.prog w base (fun _ => true) held n 36 (([c0, c1, c2, c3, c4, c5, c6].drop 2).take (Tryz.prog.cellsOf 36)) = ys[2]? := hf 2 _ rfl
  rw [db_cApiKind] at h2
  have h3 : DataW.trod enc Tryz.prog w base (fun _ => true) held n 23 (([c0, c1, c2, c3, c4, c5, c6].drop 3).take (Tryz.prog.cellsOf 23)) = ys[3]? := hf 3 _ rfl
  rw [db_cPos] at h3
  have h4 : DataW.trod enc Tryz.prog w base (fun _ => true) held n 2 (([c0, c1, c2, c3, c4, c5, c6].drop 5).take (Tryz.prog.cellsOf 2)) = ys[4]? := hf 4 _ rfl
  rw [db_cI64] at h4
  have h5 : DataW.trod enc Tryz.prog w base (fun _ => true) held n 2 (([c0, c1, c2, c3, c4, c5, c6].drop 6).take (Tryz.prog.cellsOf 2)) = ys[5]? := hf 5 _ rfl
  rw [db_cI64] at h5
  match ys, hyl with
  | [z0, z1, z2, z3, z4, z5], _ =>
   obtain ⟨id, e0, _, w_id⟩ := DataW.trod_string Tryz.underlying9 (show DataW.trod enc Tryz.prog w base (fun _ => true) held n 9 [c0] = some z0 from h0)
   obtain ⟨rg, e1, _, w_rg⟩ := DataW.trod_string Tryz.underlying9 (show DataW.trod enc Tryz.prog w base (fun _ => true) held n 9 [c1] = some z1 from h1)
   obtain ⟨kd, e2, _, g_kd⟩ := DataW.trod_int Tryz.underlying36 (show DataW.trod enc Tryz.prog w base (fun _ => true) held n 36 [c2] = some z2 from h2)
   obtain ⟨vs3, m3, _, _, _, hvl3, hg3⟩ := DataW.trod_struct Tryz.underlying23 (show DataW.trod enc Tryz.prog w base (fun _ => true) held n 23 [c3, c4] = some z3 from h3)
   have g30 : DataW.trod enc Tryz.prog w base (fun _ => true) held m3 2 (([c3, c4].drop 0).take (Tryz.prog.cellsOf 2)) = vs3[0]? := hg3 0 _ rfl
   have g31 : DataW.trod enc Tryz.prog w base (fun _ => true) held m3 2 (([c3, c4].drop 1).take (Tryz.prog.cellsOf 2)) = vs3[1]? := hg3 1 _ rfl
   rw [db_cI64] at g30 g31
   obtain ⟨y30, y31, hy3⟩ : ∃ a b, vs3 = [a, b] := by
    match vs3, hvl3 with
    | [a, b], _ => exact ⟨a, b, rfl⟩
   rw [hy3] at g30 g31
   obtain ⟨la, e30, _, _⟩ := DataW.trod_int Tryz.underlying2 (show DataW.trod enc Tryz.prog w base (fun _ => true) held m3 2 [c3] = some y30 from g30)
   obtain ⟨lo, e31, _, _⟩ := DataW.trod_int Tryz.underlying2 (show DataW.trod enc Tryz.prog w base (fun _ => true) held m3 2 [c4] = some y31 from g31)
   obtain ⟨el, e4, _, _⟩ := DataW.trod_int Tryz.underlying2 (show DataW.trod enc Tryz.prog w base (fun _ => true) held n 2 [c5] = some z4 from h4)
   obtain ⟨ra, e5, _, _⟩ := DataW.trod_int Tryz.underlying2 (show DataW.trod enc Tryz.prog w base (fun _ => true) held n 2 [c6] = some z5 from h5)
   obtain rfl : c0 = .string id := by simpa using e0
   obtain rfl : c1 = .string rg := by simpa using e1
   obtain rfl : c2 = .int .u8 kd := by simpa using e2
   obtain rfl : c3 = .int .i64 la := by simpa using e30
   obtain rfl : c4 = .int .i64 lo := by simpa using e31
   obtain rfl : c5 = .int .i64 el := by simpa using e4
   obtain rfl : c6 = .int .i64 ra := by simpa using e5
   have u_kd : 0 ≤ kd ∧ kd < 256 := u8_bd g_kd
   refine ⟨⟨bl id, bl rg, kd.toNat, la, lo, el, ra⟩, ?_, w_id, w_rg, by show kd.toNat < 256; omega⟩
   unfold fxc
   rw [sb_bl, sb_bl, show ((kd.toNat : Nat) : Int) = kd by omega]
theorem db_cApiHeader : Tryz.prog.cellsOf 25 = 6 := by kernel_rfl
theorem db_cSlApiFix : Tryz.prog.cellsOf 26 = 1 := by kernel_rfl
theorem db_cSlApiAirway : Tryz.prog.cellsOf 27 = 1 := by kernel_rfl
theorem db_cSlApiProcedure : Tryz.prog.cellsOf 28 = 1 := by kernel_rfl
theorem db_cApiDb : Tryz.prog.cellsOf 30 = 9 := by kernel_rfl
end
end Go.Proofs.YtlhniiakacbbeaaGreatDoor
