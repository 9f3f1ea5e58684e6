/-
  Several texts as one.
-/
import Derived.Test.YtlhniiakacbbeaaGreatDoorImPS
import Derived.Test.YtlhniiakacbbeaaGreatDoorMG08
import Derived.Test.YtlhniiakacbbeaaGreatDoorMG07
import Derived.Test.YtlhniiakacbbeaaGreatDoorCkP
namespace Go.Proofs.YtlhniiakacbbeaaGreatDoor
open Go.RowKit
set_option linter.unusedVariables false
set_option linter.unusedSimpArgs false
def Box9 (w : World) (q : Nat) : Prop := ∀ o u, w.cell? ⟨q, o, none⟩ = some u → (o = 0 ∧ ∃ s, u = .string s) ∨ (1 ≤ o ∧ ∃ z, u = .int .i64 z) ∨ (2 ≤ o ∧ ∃ A n c, u = .slice A n c)
theorem box9_of {w : World} {q : Nat} {h : ImHd} {A B C : Option Addr} {i j k l m o : Nat} {t : TypeId} (hx : Bx q (dbA h (.slice A i j) (.slice B k l) (.slice C m o)) t w) : Box9 w q := by
 intro x u hu
 have hc : w.cell? ⟨q, x, none⟩ = (dbA h (.slice A i j) (.slice B k l) (.slice C m o))[x]? := Lib.cell_of_heap hx x
 rw [hc] at hu
 unfold dbA at hu
 match x, hu with
 | 0, hu => left; exact ⟨rfl, _, (Option.some.inj hu).symm⟩
 | 1, hu => right; left; exact ⟨by omega, _, (Option.some.inj hu).symm⟩
 | 2, hu => right; left; exact ⟨by omega, _, (Option.some.inj hu).symm⟩
 | 3, hu => right; left; exact ⟨by omega, _, (Option.some.inj hu).symm⟩
 | 4, hu => right; left; exact ⟨by omega, _, (Option.some.inj hu).symm⟩
 | 5, hu => right; left; exact ⟨by omega, _, (Option.some.inj hu).symm⟩
 | 6, hu => right; right; exact ⟨by omega, _, _, _, (Option.some.inj hu).symm⟩
 | 7, hu => right; right; exact ⟨by omega, _, _, _, (Option.some.inj hu).symm⟩
 | 8, hu => right; right; exact ⟨by omega, _, _, _, (Option.some.inj hu).symm⟩
 | n + 9, hu => simp at hu
section
variable {w w' : World} {q : Nat}
theorem Box9.no_u8 (h : Box9 w q) {o : Nat} {z : Int} (hu : w.cell? ⟨q, o, none⟩ = some (.int .u8 z)) : False := by
 rcases h o _ hu with ⟨_, _, e⟩ | ⟨_, _, e⟩ | ⟨_, _, _, _, e⟩ <;> cases e
theorem Box9.str (h : Box9 w q) {o : Nat} {s : ByteArray} (hu : w.cell? ⟨q, o, none⟩ = some (.string s)) : o = 0 := by
 rcases h o _ hu with ⟨e, _⟩ | ⟨_, _, e⟩ | ⟨_, _, _, _, e⟩
 ·exact e
 ·cases e
 ·cases e
structure But (q : Nat) (w w' : World) : Prop where
 size : w.heap.size ≤ w'.heap.size
 cell : ∀ g o, g ≠ q → g < w.heap.size → w'.cell? ⟨g, o, none⟩ = w.cell? ⟨g, o, none⟩
theorem But.setRow (w : World) (q : Nat) (cs : Array Value) : But q w (w.setRow q cs) :=
 ⟨by simp [World.setRow], fun g o hg _ => by
  have := setRow_other w q g cs hg
  simp only [World.cell?, this]⟩
theorem Rd.but {k n : Nat} {v : Value} {xs : List Value} (h : Rd w k v n xs) (hb : But q w w') (hq : 0 < n → ∀ o, (∀ j u, xs[j]? = some u → w.cell? ⟨q, o + j, none⟩ = some u) → False) : Rd w' k v n xs := by
 obtain ⟨hl, A, c, hv, hc, hm, hr⟩ := h
 refine ⟨hl, A, c, hv, hc, hm, fun hn => ?_⟩
 obtain ⟨g, o, hA, hg, hx⟩ := hr hn
 have hne : g ≠ q := by intro e; subst e; exact hq hn o hx
 exact ⟨g, o, hA, Nat.lt_of_lt_of_le hg hb.size, fun j u hu => (hb.cell g (o + j) hne hg).trans (hx j u hu)⟩
theorem PtsR.but {v : Value} {l : List Pt} (h : PtsR w v l) (hb : But q w w') (h9 : Box9 w q) : PtsR w' v l :=
 ⟨h.1.but hb (fun hn o hx => by
  cases l with
  | nil => simp at hn
  | cons p l => exact h9.no_u8 (hx 3 _ (by rfl))), h.2⟩
theorem LgsR.but {v : Value} {l : List Lg} (h : LgsR w v l) (hb : But q w w') (h9 : Box9 w q) : LgsR w' v l :=
 ⟨h.1.but hb (fun hn o hx => by
  cases l with
  | nil => simp at hn
  | cons p l => exact h9.no_u8 (hx 0 _ (by rfl))), h.2⟩
theorem FxsD.but {v : Value} {l : List Fx} (h : FxsD w v l) (hb : But q w w') (h9 : Box9 w q) : FxsD w' v l :=
 ⟨h.1.but hb (fun hn o hx => by
  cases l with
  | nil => simp at hn
  | cons p l => have := h9.str (hx 1 _ (by rfl)); omega), h.2⟩
theorem AwsD.but {v : Value} {l : List AwD} (h : AwsD w v l) (hb : But q w w') (h9 : Box9 w q) : AwsD w' v l := by
 obtain ⟨L, h1, h2, h3⟩ := h
 refine ⟨L, h1, h2.but hb (fun hn o hx => ?_), fun x hx => ⟨(h3 x hx).1, (h3 x hx).2.but hb h9⟩⟩
 cases L with
 | nil => simp at hn
 | cons x L =>
  have h0 := h9.str (hx 0 _ (by rfl))
  have h4 := hx 1 _ (by rfl)
  obtain ⟨A, c, hv, _⟩ := (h3 x (by simp)).2.form
  have e0 : o = 0 := by omega
  subst e0
  rw [hv] at h4
  rcases h9 _ _ h4 with ⟨_, _, e⟩ | ⟨_, _, e⟩ | ⟨e, _⟩
  ·cases e
  ·cases e
  ·omega
theorem PasR.but {v : Value} {l : List Pa} (h : PasR w v l) (hb : But q w w') (h9 : Box9 w q) : PasR w' v l := by
 obtain ⟨L, h1, h2, h3⟩ := h
 refine ⟨L, h1, h2.but hb (fun hn o hx => ?_), fun x hx => ⟨(h3 x hx).1, (h3 x hx).2.1, (h3 x hx).2.2.but hb h9⟩⟩
 cases L with
 | nil => simp at hn
 | cons x L => exact h9.no_u8 (hx 0 _ (by rfl))
theorem PrcsR.but {v : Value} {l : List Prc} (h : PrcsR w v l) (hb : But q w w') (h9 : Box9 w q) : PrcsR w' v l := by
 obtain ⟨L, h1, h2, h3⟩ := h
 refine ⟨L, h1, h2.but hb (fun hn o hx => ?_), fun x hx => ⟨(h3 x hx).1, (h3 x hx).2.1, (h3 x hx).2.2.1, (h3 x hx).2.2.2.but hb h9⟩⟩
 cases L with
 | nil => simp at hn
 | cons x L => have := h9.str (hx 1 _ (by rfl)); omega
theorem DbV.but {f a p : Value} {D : DbD} (h : DbV w f a p D) (hb : But q w w') (h9 : Box9 w q) : DbV w' f a p D := ⟨h.nm, h.fx.but hb h9, h.aw.but hb h9, h.pr.but hb h9⟩
end
def DecPost (D : DbD) (w : World) (e : Ending) (w' : World) : Prop :=
 Below w.heap.size w w' ∧ ((dbE D ≠ 0 ∧ e = .returned (.tuple #[.agg dbZ9, .int .i64 (dbE D)])) ∨ (dbE D = 0 ∧ ∃ f a p, e = .returned (.tuple #[.agg (dbI D.hd f a p), .int .i64 0]) ∧ DbV w' f a p D))
theorem DecPost.bad {D : DbD} {w w' : World} {x : Int} (h : Below w.heap.size w w') (hx : dbE D = x) (h0 : x ≠ 0) : DecPost D w (.returned (.tuple #[.agg dbZ9, .int .i64 x])) w' := ⟨h, .inl ⟨by rw [hx]; exact h0, by rw [hx]⟩⟩
theorem DecPost.ok {D : DbD} {w w' : World} {f a p : Value} (h : Below w.heap.size w w') (hx : dbE D = 0) (hv : DbV w' f a p D) : DecPost D w (.returned (.tuple #[.agg (dbI D.hd f a p), .int .i64 0])) w' := ⟨h, .inr ⟨hx, f, a, p, rfl, hv⟩⟩
theorem dbI_dbA (h : ImHd) (f a p : Value) : dbI h f a p = dbA h f a p := rfl
set_option maxRecDepth 100000 in
set_option maxHeartbeats 8000000 in
theorem decode_ok (v : Value) (bs : List UInt8) (D : DbD) (L : List Sec) (w : World) (hT : LegT w) (h : BsV w v bs) (hL : bs.length ≤ 1000000) (hr : rdRes bs = (0, D.hd, L)) (hD : dbOfL (bs.take (bs.length - 4)) L = D) (hz : SzD D) :
  Calls Tryz.prog 22 #[v] w (DecPost D w) := by
 obtain ⟨w0, hw0⟩ : ∃ W, w.alloc (.cells #[.string ⟨#[]⟩, .int .i64 0, .int .i64 0, .int .i64 0, .int .i64 0, .int .i64 0, .slice none 0 0, .slice none 0 0, .slice none 0 0] 30) = W := ⟨_, rfl⟩
 have hb0 : Below w.heap.size w w0 := by rw [← hw0]; exact (Below.refl _ _).alloc (Nat.le_refl _) _
 have B0 := Lib.hid hb0
 have X0 : Hid (Bx w.heap.size #[.string ⟨#[]⟩, .int .i64 0, .int .i64 0, .int .i64 0, .int .i64 0, .int .i64 0, .slice none 0 0, .slice none 0 0, .slice none 0 0] 30 w0) := by rw [← hw0]; exact Bx.last _ _ _
 have hrd := imReadS_any v bs w0 (h.below hb0) hL
 have hrd2 : Calls Tryz.prog 71 #[v] w0 fun e w' => (∃ Af nf cf Aa na ca Ap np cp A n c, e = .returned (.tuple #[.agg (dbI D.hd (.slice Af nf cf) (.slice Aa na ca) (.slice Ap np cp)), .slice A n c, .int .i64 0]) ∧ DbV w' (.slice Af nf cf) (.slice Aa na ca) (.slice Ap np cp) D) ∧ Below w0.heap.size w0 w' := hrd.mono (fun e w' hp => by
  obtain ⟨f, a, p, sv, nf, na, np, he, hs, ⟨_, _, hf, _⟩, ⟨_, _, ha, _⟩, ⟨_, _, hp, _⟩, hm, hb, hdv⟩ := hp
  rw [hr] at he hs hdv
  have hdv := hdv rfl
  dsimp only at hdv
  rw [hD] at hdv
  obtain ⟨As, cs, hs, _, _⟩ := hs.form
  rw [hf, ha, hp, hs] at he
  rw [hf, ha, hp] at hdv
  exact ⟨⟨_, _, _, _, _, _, _, _, _, _, _, _, he, hdv⟩, hb⟩)
 obtain ⟨q, hq⟩ : ∃ q, w.heap.size = q := ⟨_, rfl⟩
 rw [hq] at X0
 have HQ := Lib.hid hq
 have HW0 := Lib.hid hw0
 have HZ := Lib.hid hz
 have HT := Lib.hid hT
 obtain ⟨A, c, rfl, -, -, -⟩ := h
 clear hb0 hw0 hq hrd hL hr hD hz hT
 go_enter Tryz.func22, Tryz.ntmps22
 go_wp2_with fail
 rw [HW0.out, HQ.out]
 clear HW0
 refine hrd2.mono ?_
 rintro e w1 ⟨⟨Af, nf, cf, Aa, na, ca, Ap, np, cp, As, ns, cs, rfl, hdv⟩, hb⟩
 have B1 := Lib.hid (Below.then_ B0.out hb)
 have X1 := Lib.hid (Bx.via hb X0.out)
 clear hrd2 hb B0 X0
 rw [dbI_dbA]
 obtain ⟨w2, hw2⟩ : ∃ W, w1.alloc (.cells (dbA D.hd (.slice Af nf cf) (.slice Aa na ca) (.slice Ap np cp)) 30) = W := ⟨_, rfl⟩
 have hb2 : Below w1.heap.size w1 w2 := by rw [← hw2]; exact (Below.refl _ _).alloc (Nat.le_refl _) _
 obtain ⟨q2, hq2⟩ : ∃ q, w1.heap.size = q := ⟨_, rfl⟩
 have D2 : Hid (Bx q2 (dbA D.hd (.slice Af nf cf) (.slice Aa na ca) (.slice Ap np cp)) 30 w2) := by rw [← hw2, ← hq2]; exact Bx.last _ _ _
 have B2 := Lib.hid (Below.then_ B1.out hb2)
 have X2 := Lib.hid (Bx.via hb2 X1.out)
 have V2 := Lib.hid (hdv.below hb2)
 have hck := dbCheck_any D _ _ _ w2 (HT.out.below B2.out) V2.out HZ.out
 rw [dbA_eq] at hck
 obtain ⟨x, hx⟩ : ∃ x, dbE D = x := ⟨_, rfl⟩
 rw [hx] at hck
 have HX := Lib.hid hx
 unfold dbA at hw2 hck ⊢
 have HCK := Lib.hid hck
 have HW2 := Lib.hid hw2
 have HQ2 := Lib.hid hq2
 clear hck hw2 hq2 hb2 B1 X1 hdv hx
 go_upto_region 2 with fail
 rw [HW2.out, HQ2.out]
 clear HW2 HQ2
 obtain ⟨⟨x0, x1, x2, x3, x4, x5, x6, x7, x8⟩, _⟩ := Bx.cells9 D2.out
 have xl := Bx.lt D2.out
 go_wp2_with fail
 refine HCK.out.mono ?_
 rintro e w3 ⟨rfl, hb3⟩
 have D3 := Lib.hid (D2.out.via hb3)
 have B3 := Lib.hid (Below.then_ B2.out hb3)
 have XO := Lib.hid (X2.out.via hb3)
 have V3 := Lib.hid (V2.out.below hb3)
 clear HCK x0 x1 x2 x3 x4 x5 x6 x7 x8 xl D2 B2 X2 V2 hb3
 by_cases h0 : x = 0
 ·subst h0
  have HCS : Hid (∀ j u, (dbA D.hd (.slice Af nf cf) (.slice Aa na ca) (.slice Ap np cp)).toList[j]? = some u → w3.cell? ⟨q2, 0 + j, none⟩ = some u) := fun j u hu => by rw [Nat.zero_add]; exact D3.out.cell j (by simpa using hu)
  have hone : (dbA D.hd (.slice Af nf cf) (.slice Aa na ca) (.slice Ap np cp)).all (·.oneCell') = true := by simp [dbA, Value.oneCell']
  have FX : Bx q (dbA D.hd (.slice Af nf cf) (.slice Aa na ca) (.slice Ap np cp)) 30 (w3.setRow q (dbA D.hd (.slice Af nf cf) (.slice Aa na ca) (.slice Ap np cp))) := setRow_heap _ q _ _ 30 (0, 0) XO.out
  have HPF : Below w.heap.size w (w3.setRow q (dbA D.hd (.slice Af nf cf) (.slice Aa na ca) (.slice Ap np cp))) := row_below B3.out HQ.out
  have VF : DbV (w3.setRow q (dbA D.hd (.slice Af nf cf) (.slice Aa na ca) (.slice Ap np cp))) _ _ _ D := V3.out.but (But.setRow w3 q (dbA D.hd (.slice Af nf cf) (.slice Aa na ca) (.slice Ap np cp))) (box9_of (h := hd0) XO.out)
  obtain ⟨W9, hW9⟩ : ∃ W, w3.setRow q (dbA D.hd (.slice Af nf cf) (.slice Aa na ca) (.slice Ap np cp)) = W := ⟨_, rfl⟩
  rw [hW9] at FX HPF VF
  have HW9 := Lib.hid hW9
  have HFIN : Hid (DecPost D w (.returned (.tuple #[.agg (dbA D.hd (.slice Af nf cf) (.slice Aa na ca) (.slice Ap np cp)), .int .i64 0])) W9) := DecPost.ok HPF HX.out VF
  have FXH := Lib.hid FX
  have HONE := Lib.hid hone
  clear FX HPF hW9 VF hone
  go_wp2_with (first | (with_reducible refine wpList_load_wide rfl 30 (.tmp 4) rfl q2 0 rfl (dbA D.hd (.slice Af nf cf) (.slice Aa na ca) (.slice Ap np cp)).toList 9 rfl (aggDB9 _) (sizeDB9 _) HCS.out ?_) | (refine wpList_plain rfl fun _ hK => wp_store_row 30 (.tmp 2) (.tmp 24) rfl q (dbA D.hd (.slice Af nf cf) (.slice Aa na ca) (.slice Ap np cp)) rfl rfl 30 _ XO.out infoDB9 rfl HONE.out (hK _ _ ?_)))
  rw [HW9.out]
  obtain ⟨⟨x0, x1, x2, x3, x4, x5, x6, x7, x8⟩, _⟩ := Bx.cells9 FXH.out
  refine bodyPost_ret (v := .tuple #[.agg (dbA D.hd (.slice Af nf cf) (.slice Aa na ca) (.slice Ap np cp)), .int .i64 0]) (by simp [results, Tryz.results22, go_sem, dbA, x0, x1, x2, x3, x4, x5, x6, x7, x8]; try rfl) rfl ?_
  exact HFIN.out
 ·have hx0 : (x == 0) = false := beq_eq_false_iff_ne.2 h0
  have FX : Bx q dbZ9 30 (w3.setRow q dbZ9) := setRow_heap _ q _ dbZ9 30 (0, 0) XO.out
  have HPF : Below w.heap.size w (w3.setRow q dbZ9) := row_below B3.out HQ.out
  obtain ⟨W9, hW9⟩ : ∃ W, w3.setRow q dbZ9 = W := ⟨_, rfl⟩
  rw [hW9] at FX HPF
  have HW9 := Lib.hid hW9
  have HFIN : Hid (DecPost D w (.returned (.tuple #[.agg dbZ9, .int .i64 x])) W9) := DecPost.bad HPF HX.out h0
  have FXH := Lib.hid FX
  clear FX HPF hW9 h0
  go_wp2_with (refine wpList_plain rfl fun _ hK => wp_store_row 30 (.tmp 2) (.tmp 22) rfl q dbZ9 rfl rfl 30 _ XO.out infoDB9 rfl dbZ9_one (hK _ _ ?_))
  rw [HW9.out]
  obtain ⟨⟨x0, x1, x2, x3, x4, x5, x6, x7, x8⟩, _⟩ := Bx.cells9 FXH.out
  refine bodyPost_ret (v := .tuple #[.agg dbZ9, .int .i64 x]) (by simp [results, Tryz.results22, go_sem, dbZ9, x0, x1, x2, x3, x4, x5, x6, x7, x8]; try rfl) rfl ?_
  exact HFIN.out
end Go.Proofs.YtlhniiakacbbeaaGreatDoor
