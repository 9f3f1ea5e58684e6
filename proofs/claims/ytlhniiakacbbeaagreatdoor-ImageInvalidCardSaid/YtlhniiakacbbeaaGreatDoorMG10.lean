/-
  Several texts as one.
-/
import Derived.Test.YtlhniiakacbbeaaGreatDoorImS
import Derived.Test.YtlhniiakacbbeaaGreatDoorMG08
import Derived.Test.YtlhniiakacbbeaaGreatDoorRdBk
namespace Go.Proofs.YtlhniiakacbbeaaGreatDoor
open Go.RowKit
set_option linter.unusedVariables false
set_option linter.unusedSimpArgs false
def FxsO (B : Nat) (w : World) (v : Value) (l : List Fx) : Prop := w.ownsRow B 38 7 v l.length (l.flatMap fxc)
def AwsO (B : Nat) (w : World) (v : Value) (l : List AwD) : Prop := ∃ L : List (Value × AwD), L.map (·.2) = l ∧ w.ownsRow B 48 2 v L.length (L.flatMap awc) ∧ ∀ x ∈ L, OwnAw B w x
def PrsO (B : Nat) (w : World) (v : Value) (l : List Prc) : Prop := ∃ L : List (Value × Prc), L.map (·.2) = l ∧ w.ownsRow B 57 4 v L.length (L.flatMap prc) ∧ ∀ x ∈ L, OwnPr B w x
def rdTs : List TypeId := [210, 30, 121]
section
variable {B : Nat} {w w' : World} {v : Value}
theorem FxsO.tf {l : List Fx} (h : FxsO B w v l) (hf : TFrm B rdTs w w') : FxsO B w' v l := own_tf h hf (Nat.le_refl _) (by decide)
theorem AwsO.tf {l : List AwD} (h : AwsO B w v l) (hf : TFrm B rdTs w w') : AwsO B w' v l := by
 obtain ⟨L, h1, h2, h3⟩ := h
 exact ⟨L, h1, own_tf h2 hf (Nat.le_refl _) (by decide), fun x hx => (h3 x hx).tf hf (by decide)⟩
theorem PrsO.tf {l : List Prc} (h : PrsO B w v l) (hf : TFrm B rdTs w w') : PrsO B w' v l := by
 obtain ⟨L, h1, h2, h3⟩ := h
 exact ⟨L, h1, own_tf h2 hf (Nat.le_refl _) (by decide), fun x hx => (h3 x hx).tf hf (by decide) (by decide)⟩
end
def sxO (L : List Sec) (i : Nat) : Sec := L.getD i (0, 0, 0, 0)
def fxOf (body : List UInt8) (L : List Sec) : List Fx := fxsV body ((sxO L 1).2.1 + (sxO L 1).2.2.1) ((sxO L 1).2.1, false)
def awOf (body : List UInt8) (L : List Sec) : List AwD := awsV body ((sxO L 2).2.1 + (sxO L 2).2.2.1) ((sxO L 2).2.1, false)
def prOf (body : List UInt8) (L : List Sec) : List Prc := prsV body ((sxO L 3).2.1 + (sxO L 3).2.2.1) ((sxO L 3).2.1, false)
def dbOfL (body : List UInt8) (L : List Sec) : DbD := ⟨imHdF body, fxOf body L, awOf body L, prOf body L⟩
theorem sxO_app {L : List Sec} {x : Sec} {i : Nat} (h : i < L.length) : sxO (L ++ [x]) i = sxO L i := by
 unfold sxO; rw [List.getD_eq_getElem?_getD, List.getD_eq_getElem?_getD, List.getElem?_append_left h]
theorem sxO_last {L : List Sec} {x : Sec} {i : Nat} (h : L.length = i) : sxO (L ++ [x]) i = x := by
 unfold sxO; rw [List.getD_eq_getElem?_getD, List.getElem?_append_right (by omega), show i - L.length = 0 by omega]; rfl
structure ConS (B : Nat) (body : List UInt8) (db : Array Value) (L : List Sec) (w : World) : Prop where
 fx : 2 ≤ L.length → ∃ v, db[6]? = some v ∧ FxsO B w v (fxOf body L)
 aw : 3 ≤ L.length → ∃ v, db[7]? = some v ∧ AwsO B w v (awOf body L)
 pr : 4 ≤ L.length → ∃ v, db[8]? = some v ∧ PrsO B w v (prOf body L)
section
variable {B : Nat} {body : List UInt8} {db : Array Value} {L : List Sec} {w w' : World}
theorem ConS.tf (h : ConS B body db L w) (hf : TFrm B rdTs w w') : ConS B body db L w' :=
 ⟨fun hl => by obtain ⟨v, h1, h2⟩ := h.fx hl; exact ⟨v, h1, h2.tf hf⟩, fun hl => by obtain ⟨v, h1, h2⟩ := h.aw hl; exact ⟨v, h1, h2.tf hf⟩, fun hl => by obtain ⟨v, h1, h2⟩ := h.pr hl; exact ⟨v, h1, h2.tf hf⟩⟩
theorem ConS.nil (h : L.length < 2) : ConS B body db L w := ⟨fun hl => by omega, fun hl => by omega, fun hl => by omega⟩
theorem ConS.s1 {hd : ImHd} {f a p : Value} {o n c : Nat} (hl : L.length = 1) (h : FxsO B w f (fxsV body (o + n) (o, false))) : ConS B body (dbI hd f a p) (L ++ [(2, o, n, c)]) w := by
 refine ⟨fun _ => ⟨f, rfl, ?_⟩, fun h2 => by rw [List.length_append, hl] at h2; simp at h2, fun h2 => by rw [List.length_append, hl] at h2; simp at h2⟩
 unfold fxOf; rw [sxO_last hl]; exact h
theorem ConS.s2 {hd hd' : ImHd} {f a a' p p' : Value} {o n c : Nat} (hl : L.length = 2) (hc : ConS B body (dbI hd f a p) L w) (h : AwsO B w a' (awsV body (o + n) (o, false))) : ConS B body (dbI hd' f a' p') (L ++ [(3, o, n, c)]) w := by
 refine ⟨fun _ => ?_, fun _ => ⟨a', rfl, ?_⟩, fun h2 => by rw [List.length_append, hl] at h2; simp at h2⟩
 ·obtain ⟨v, h1, h2⟩ := hc.fx (by omega)
  obtain rfl : f = v := Option.some.inj h1
  refine ⟨f, rfl, ?_⟩
  unfold fxOf at h2 ⊢; rw [sxO_app (by omega)]; exact h2
 ·unfold awOf; rw [sxO_last hl]; exact h
theorem ConS.s3 {hd hd' : ImHd} {f a p p' : Value} {o n c : Nat} (hl : L.length = 3) (hc : ConS B body (dbI hd f a p) L w) (h : PrsO B w p' (prsV body (o + n) (o, false))) : ConS B body (dbI hd' f a p') (L ++ [(4, o, n, c)]) w := by
 refine ⟨fun _ => ?_, fun _ => ?_, fun _ => ⟨p', rfl, ?_⟩⟩
 ·obtain ⟨v, h1, h2⟩ := hc.fx (by omega)
  obtain rfl : f = v := Option.some.inj h1
  refine ⟨f, rfl, ?_⟩
  unfold fxOf at h2 ⊢; rw [sxO_app (by omega)]; exact h2
 ·obtain ⟨v, h1, h2⟩ := hc.aw (by omega)
  obtain rfl : a = v := Option.some.inj h1
  refine ⟨a, rfl, ?_⟩
  unfold awOf at h2 ⊢; rw [sxO_app (by omega)]; exact h2
 ·unfold prOf; rw [sxO_last hl]; exact h
end
theorem txV_len (bs : List UInt8) (st : Nat) (s : RS) : (txV bs st s).length ≤ maxLen := by
 have h1 : (txV bs st s).length ≤ (byV bs st s).toNat := tkV_len
 have h2 := (byV bs st s).toNat_lt
 unfold maxLen; omega
theorem ptV_ok (bs : List UInt8) (st : Nat) (s : RS) : (ptV bs st s).ref.length ≤ maxLen ∧ (ptV bs st s).dir < 256 := ⟨txV_len _ _ _, (byV _ _ _).toNat_lt⟩
theorem lgV_ok (bs : List UInt8) (st : Nat) (s : RS) : LgOk (lgV bs st s) := ⟨txV_len _ _ _, txV_len _ _ _, (byV _ _ _).toNat_lt, (byV _ _ _).toNat_lt⟩
theorem fxV_ok (bs : List UInt8) (st : Nat) (s : RS) : FxOk (fxV bs st s) := ⟨txV_len _ _ _, txV_len _ _ _, (byV _ _ _).toNat_lt⟩
theorem FxsO.rd {B : Nat} {w : World} {v : Value} {bs : List UInt8} {st : Nat} {s : RS} (h : FxsO B w v (fxsV bs st s)) : FxsD w v (fxsV bs st s) := ⟨Rd.of_own h, lsV_all (fun s => fxV_ok bs st s) _ _⟩
theorem map_mem {α β : Type} {L : List (α × β)} {l : List β} (h : L.map (·.2) = l) {x : α × β} (hx : x ∈ L) : x.2 ∈ l := by rw [← h]; exact List.mem_map_of_mem hx
theorem AwsO.rd {B : Nat} {w : World} {v : Value} {bs : List UInt8} {st : Nat} {s : RS} (h : AwsO B w v (awsV bs st s)) : AwsD w v (awsV bs st s) := by
 obtain ⟨L, h1, h2, h3⟩ := h
 refine ⟨L, h1.symm, Rd.of_own h2, fun x hx => ?_⟩
 have hv : ∃ s', x.2 = awV bs st s' := lsV_all (P := fun a => ∃ s', a = awV bs st s') (fun s => ⟨s, rfl⟩) _ _ x.2 (map_mem h1 hx)
 obtain ⟨s', hs⟩ := hv
 have h4 := h3 x hx
 refine ⟨by rw [hs]; exact txV_len _ _ _, Rd.of_own h4, ?_⟩
 rw [hs]
 exact lsV_all (fun s => ptV_ok bs st s) _ _
theorem PrsO.rd {B : Nat} {w : World} {v : Value} {bs : List UInt8} {st : Nat} {s : RS} (h : PrsO B w v (prsV bs st s)) : PrcsR w v (prsV bs st s) := by
 obtain ⟨L, h1, h2, h3⟩ := h
 refine ⟨L, h1.symm, Rd.of_own h2, fun x hx => ?_⟩
 have hv : ∃ s', x.2 = prV bs st s' := lsV_all (P := fun a => ∃ s', a = prV bs st s') (fun s => ⟨s, rfl⟩) _ _ x.2 (map_mem h1 hx)
 obtain ⟨s', hs⟩ := hv
 obtain ⟨M, m1, m2, m3⟩ := h3 x hx
 refine ⟨by rw [hs]; exact txV_len _ _ _, by rw [hs]; exact txV_len _ _ _, by rw [hs]; exact (byV _ _ _).toNat_lt, M, m1.symm, Rd.of_own m2, fun y hy => ?_⟩
 have hy2 : y.2 ∈ pasV bs st (tkS st 1 (txS bs st (txS bs st s'))) := by
  have := map_mem m1 hy
  rw [hs] at this
  exact this
 obtain ⟨s2, hs2⟩ := lsV_all (P := fun a => ∃ s', a = paV bs st s') (fun s => ⟨s, rfl⟩) _ _ y.2 hy2
 refine ⟨by rw [hs2]; exact txV_len _ _ _, by rw [hs2]; exact (byV _ _ _).toNat_lt, Rd.of_own (m3 y hy), ?_⟩
 rw [hs2]
 exact lsV_all (fun s => lgV_ok bs st s) _ _
theorem ConS.db {B : Nat} {body : List UInt8} {h : ImHd} {f a p : Value} {L : List Sec} {w : World} (hc : ConS B body (dbI h f a p) L w) (hl : L.length = 4) : DbV w f a p (dbOfL body L) := by
 obtain ⟨v1, e1, h1⟩ := hc.fx (by omega)
 obtain ⟨v2, e2, h2⟩ := hc.aw (by omega)
 obtain ⟨v3, e3, h3⟩ := hc.pr (by omega)
 obtain rfl : f = v1 := Option.some.inj e1
 obtain rfl : a = v2 := Option.some.inj e2
 obtain rfl : p = v3 := Option.some.inj e3
 exact ⟨txV_len _ _ _, h1.rd, h2.rd, h3.rd⟩
section
variable {bs : List UInt8} {st a : Nat}
theorem u8b_nat {n : Nat} (h : n < 256) : (u8b n).toNat = n := u8of_len (by omega)
theorem lsV_at {α : Type} (f : α → List UInt8) (one : RS → RS) (val : RS → α) (l : List α) (h1 : ∀ x ∈ l, ∀ (a : Nat), AtB bs a (f x) → a + (f x).length ≤ st → one (a, false) = (a + (f x).length, false)) (h2 : ∀ x ∈ l, ∀ (a : Nat), AtB bs a (f x) → a + (f x).length ≤ st → val (a, false) = x) :
  ∀ (a : Nat), AtB bs a (l.flatMap f) → a + (l.flatMap f).length ≤ st → lsV val one l.length (a, false) = l := by
 induction l with
 | nil => intro a _ _; rfl
 | cons x l ih =>
  intro a h hs
  rw [List.flatMap_cons] at h hs
  rw [List.length_append] at hs
  show val (a, false) :: lsV val one l.length (one (a, false)) = x :: l
  rw [h2 x (List.mem_cons_self ..) a h.left (by omega), h1 x (List.mem_cons_self ..) a h.left (by omega), ih (fun y hy => h1 y (List.mem_cons_of_mem _ hy)) (fun y hy => h2 y (List.mem_cons_of_mem _ hy)) _ h.right (by omega)]
theorem lsV_lst {α : Type} (f : α → List UInt8) (one : RS → RS) (val : RS → α) (l : List α) (h1 : ∀ x ∈ l, ∀ (a : Nat), AtB bs a (f x) → a + (f x).length ≤ st → one (a, false) = (a + (f x).length, false)) (h2 : ∀ x ∈ l, ∀ (a : Nat), AtB bs a (f x) → a + (f x).length ≤ st → val (a, false) = x)
  (h : AtB bs a (lowB (l.length : Int) 2 ++ l.flatMap f)) (hn : l.length < 65536) (hs : a + 2 + (l.flatMap f).length ≤ st) : lsV val one (lsN bs st (a, false)) (tkS st 2 (a, false)) = l := by
 rw [lsN_at h hn (by omega), tkS_at (n := 2) (by omega)]
 have h3 := h.right
 rw [lowB_len] at h3
 exact lsV_at f one val l h1 h2 (a + 2) h3 hs
theorem num4 {x y z t : Int} (h : AtB bs a (numB [x, y, z, t])) : AtB bs a (lowB x 8) ∧ AtB bs (a + 8) (lowB y 8) ∧ AtB bs (a + 8 + 8) (lowB z 8) ∧ AtB bs (a + 8 + 8 + 8) (lowB t 8) := by
 have e : numB [x, y, z, t] = lowB x 8 ++ (lowB y 8 ++ (lowB z 8 ++ (lowB t 8 ++ []))) := rfl
 rw [e] at h
 have q1 := h.right
 rw [lowB_len] at q1
 have q2 := q1.right
 rw [lowB_len] at q2
 have q3 := q2.right
 rw [lowB_len] at q3
 exact ⟨h.left, q1.left, q2.left, q3.left⟩
theorem num2 {x y : Int} (h : AtB bs a (numB [x, y])) : AtB bs a (lowB x 8) ∧ AtB bs (a + 8) (lowB y 8) := by
 have e : numB [x, y] = lowB x 8 ++ (lowB y 8 ++ []) := rfl
 rw [e] at h
 have q1 := h.right
 rw [lowB_len] at q1
 exact ⟨h.left, q1.left⟩
theorem num8 {x0 x1 x2 x3 x4 x5 x6 x7 : Int} (h : AtB bs a (numB [x0, x1, x2, x3, x4, x5, x6, x7])) : (AtB bs a (lowB x0 8) ∧ AtB bs (a + 8) (lowB x1 8) ∧ AtB bs (a + 8 + 8) (lowB x2 8) ∧ AtB bs (a + 8 + 8 + 8) (lowB x3 8)) ∧ AtB bs (a + 32) (lowB x4 8) ∧ AtB bs (a + 32 + 8) (lowB x5 8) ∧ AtB bs (a + 32 + 8 + 8) (lowB x6 8) ∧ AtB bs (a + 32 + 8 + 8 + 8) (lowB x7 8) := by
 have e : numB [x0, x1, x2, x3, x4, x5, x6, x7] = numB [x0, x1, x2, x3] ++ numB [x4, x5, x6, x7] := rfl
 rw [e] at h
 have q := h.right
 rw [numB_len] at q
 exact ⟨num4 h.left, num4 q⟩
theorem fxV_at {f : Fx} (hb : FxB f) (h : AtB bs a (fxB f)) (hs : a + (fxB f).length ≤ st) : fxV bs st (a, false) = f := by
 have h1 := hb.id; have h2 := hb.rg
 have hl : (fxB f).length = f.id.length + f.rg.length + 35 := by
  unfold fxB; rw [List.length_append, List.length_append, txtLb_two, numB_len]; (simp only [List.length_cons, List.length_nil]) <;> omega
 rw [hl] at hs
 unfold fxB at h
 rw [txt2] at h
 have k1 := h.left.left
 have k2 := h.left.right
 rw [List.length_cons, show a + (f.id.length + 1) = a + 1 + f.id.length by omega] at k2
 have k3 := h.right
 rw [List.length_append, List.length_cons, List.length_cons, show a + (f.id.length + 1 + (f.rg.length + 1)) = a + 1 + f.id.length + 1 + f.rg.length by omega] at k3
 have k4 := k3.right
 rw [show [u8b f.kd].length = 1 from rfl] at k4
 obtain ⟨n1, n2, n3, n4⟩ := num4 k4
 have t1 := txS_at (st := st) k1 (by omega) (by omega)
 have t2 := txS_at (st := st) k2 (by omega) (by omega)
 unfold fxV
 rw [t1, t2, txV_at k1 (by omega) (by omega), txV_at k2 (by omega) (by omega), byV_at k3.left (by omega), u8b_nat hb.kd, tkS_at (n := 1) (by omega), n8S_at (by omega), n8S_at (by omega), n8S_at (by omega),
  n8V_at n1 (by omega) hb.la, n8V_at n2 (by omega) hb.lo, n8V_at n3 (by omega) hb.el, n8V_at n4 (by omega) hb.ra]
theorem ptV_at {p : Pt} (hb : PtB p) (h : AtB bs a (ptB p)) (hs : a + (ptB p).length ≤ st) : ptV bs st (a, false) = p := by
 have h1 := hb.ref
 have hl : (ptB p).length = p.ref.length + 18 := by
  unfold ptB; rw [List.length_append, List.length_append, txtLb_one, numB_len]; (simp only [List.length_cons, List.length_nil]) <;> omega
 rw [hl] at hs
 unfold ptB at h
 rw [txt1] at h
 have k1 := h.left
 have k2 := h.right
 rw [List.length_cons, show a + (p.ref.length + 1) = a + 1 + p.ref.length by omega] at k2
 obtain ⟨n1, n2⟩ := num2 k2.left
 have k3 := k2.right
 rw [numB_len, show [p.lo, p.hi].length * 8 = 16 from rfl, show a + 1 + p.ref.length + 16 = a + 1 + p.ref.length + 8 + 8 by omega] at k3
 unfold ptV
 rw [txS_at k1 (by omega) (by omega), txV_at k1 (by omega) (by omega), n8S_at (by omega), n8S_at (by omega), n8V_at n1 (by omega) hb.lo, n8V_at n2 (by omega) hb.hi, byV_at k3 (by omega), u8b_nat hb.dir]
theorem awV_at {w : AwD} (hb : AwBd w) (h : AtB bs a (awB w)) (hs : a + (awB w).length ≤ st) : awV bs st (a, false) = w := by
 have h1 := hb.nm; have h2 := hb.n
 have hl : (awB w).length = w.nm.length + 3 + (w.ps.flatMap ptB).length := by
  unfold awB; rw [List.length_append, List.length_append, txtLb_one, lowB_len]; omega
 rw [hl] at hs
 unfold awB at h
 rw [txt1] at h
 have h3 := h.right
 rw [List.length_cons, show a + (w.nm.length + 1) = a + 1 + w.nm.length by omega] at h3
 unfold awV ptsV
 rw [txS_at h.left (by omega) (by omega), txV_at h.left (by omega) (by omega), lsV_lst ptB (ptS bs st) (ptV bs st) w.ps (fun x hx a ha hs => ptS_at (hb.ps x hx).ref ha hs) (fun x hx a ha hs => ptV_at (hb.ps x hx) ha hs) h3 (by omega) (by omega)]
theorem lgV_at {g : Lg} (hb : LgB g) (h : AtB bs a (lgB g)) (hs : a + (lgB g).length ≤ st) : lgV bs st (a, false) = g := by
 have h1 := hb.fi; have h2 := hb.ce
 have hl : (lgB g).length = g.fi.length + g.ce.length + 69 := by
  unfold lgB; rw [List.length_append, List.length_append, List.length_append, txtLb_two, numB_len]; (simp only [List.length_cons, List.length_nil]) <;> omega
 rw [hl] at hs
 unfold lgB at h
 rw [txt2] at h
 have k0 := h.left
 have k1 := h.right
 rw [show [u8b g.ty].length = 1 from rfl] at k1
 have k2 := k1.left.left
 have k3 := k1.left.right
 have k4 := k1.right
 rw [List.length_cons, show a + 1 + (g.fi.length + 1) = a + 1 + 1 + g.fi.length by omega] at k3
 rw [List.length_append, List.length_cons, List.length_cons, show a + 1 + (g.fi.length + 1 + (g.ce.length + 1)) = a + 1 + 1 + g.fi.length + 1 + g.ce.length by omega] at k4
 have k5 := k4.left.tail
 have k6 := k4.right
 rw [show [u8b g.tn, if g.ov = true then (1 : UInt8) else 0].length = 2 from rfl] at k6
 obtain ⟨⟨n0, n1, n2, n3⟩, n4, n5, n6, n7⟩ := num8 k6
 have t1 := txS_at (st := st) k2 (by omega) (by omega)
 have t2 := txS_at (st := st) k3 (by omega) (by omega)
 have hov : ovS bs st (a + 1 + 1 + g.fi.length + 1 + g.ce.length + 1, false) = (a + 1 + 1 + g.fi.length + 1 + g.ce.length + 1 + 1, false) := by
  unfold ovS
  rw [byV_at k5 (by omega), if_neg (by cases g.ov <;> decide), tkS_at (n := 1) (by omega)]
 have hob : ((((byV bs st (a + 1 + 1 + g.fi.length + 1 + g.ce.length + 1, false)).toNat : Nat) : Int) == 1) = g.ov := by
  rw [byV_at k5 (by omega)]
  cases g.ov <;> rfl
 have hA : legA bs st (a, false) = (a + 1 + 1 + g.fi.length + 1 + g.ce.length + 1, false) := by
  unfold legA
  rw [tkS_at (n := 1) (by omega), t1, t2, tkS_at (n := 1) (by omega)]
 have hN : ∀ k, k * 8 + 8 ≤ 64 → ∀ n, I64 n → AtB bs (a + 1 + 1 + g.fi.length + 1 + g.ce.length + 2 + k * 8) (lowB n 8) → legN bs st (a, false) k = n := by
  intro k hk n hn hat
  unfold legN
  rw [hA, hov, n8x_at k (by omega), show a + 1 + 1 + g.fi.length + 1 + g.ce.length + 1 + 1 + k * 8 = a + 1 + 1 + g.fi.length + 1 + g.ce.length + 2 + k * 8 by omega]
  exact n8V_at hat (by omega) hn
 unfold lgV
 rw [hN 0 (by omega) _ hb.cr (by rw [show 0 * 8 = 0 by omega, Nat.add_zero]; exact n0), hN 1 (by omega) _ hb.ds (by rw [show 1 * 8 = 8 by omega]; exact n1), hN 2 (by omega) _ hb.ra (by rw [show 2 * 8 = 8 + 8 by omega, ← Nat.add_assoc]; exact n2),
  hN 3 (by omega) _ hb.th (by rw [show 3 * 8 = 8 + 8 + 8 by omega, ← Nat.add_assoc, ← Nat.add_assoc]; exact n3), hN 4 (by omega) _ hb.lo (by rw [show 4 * 8 = 32 by omega]; exact n4), hN 5 (by omega) _ hb.hi (by rw [show 5 * 8 = 32 + 8 by omega, ← Nat.add_assoc]; exact n5),
  hN 6 (by omega) _ hb.sp (by rw [show 6 * 8 = 32 + 8 + 8 by omega, ← Nat.add_assoc, ← Nat.add_assoc]; exact n6), hN 7 (by omega) _ hb.rn (by rw [show 7 * 8 = 32 + 8 + 8 + 8 by omega, ← Nat.add_assoc, ← Nat.add_assoc, ← Nat.add_assoc]; exact n7),
  hA, hob, byV_at k0 (by omega), u8b_nat hb.ty, tkS_at (n := 1) (by omega), t1, t2, txV_at k2 (by omega) (by omega), txV_at k3 (by omega) (by omega), byV_at k4.left.head (by omega), u8b_nat hb.tn]
theorem paV_at {x : Pa} (hb : PaB x) (h : AtB bs a (paB x)) (hs : a + (paB x).length ≤ st) : paV bs st (a, false) = x := by
 have h1 := hb.nm; have h2 := hb.n
 have hl : (paB x).length = x.nm.length + 4 + (x.lg.flatMap lgB).length := by
  unfold paB; rw [List.length_append, List.length_append, List.length_append, txtLb_one, lowB_len]; (simp only [List.length_cons, List.length_nil]) <;> omega
 rw [hl] at hs
 unfold paB at h
 rw [txt1] at h
 have k0 := h.left
 have k1 := h.right
 rw [show [u8b x.kd].length = 1 from rfl] at k1
 have k2 := k1.right
 rw [List.length_cons, show a + 1 + (x.nm.length + 1) = a + 1 + 1 + x.nm.length by omega] at k2
 unfold paV lgsV
 rw [byV_at k0 (by omega), u8b_nat hb.kd, tkS_at (n := 1) (by omega), txS_at k1.left (by omega) (by omega), txV_at k1.left (by omega) (by omega), lsV_lst lgB (leS bs st) (lgV bs st) x.lg (fun g hg a ha hs => leS_at (hb.lg g hg) ha hs) (fun g hg a ha hs => lgV_at (hb.lg g hg) ha hs) k2 (by omega) (by omega)]
theorem prV_at {p : Prc} (hb : PrB p) (h : AtB bs a (prB p)) (hs : a + (prB p).length ≤ st) : prV bs st (a, false) = p := by
 have h1 := hb.nm; have h2 := hb.n; have h0 := hb.ap
 have hl : (prB p).length = p.ap.length + p.nm.length + 5 + (p.pa.flatMap paB).length := by
  unfold prB; rw [List.length_append, List.length_append, List.length_append, txtLb_two, lowB_len]; (simp only [List.length_cons, List.length_nil]) <;> omega
 rw [hl] at hs
 unfold prB at h
 rw [txt2] at h
 have k1 := h.left.left
 have k3 := h.left.right
 have k4 := h.right
 rw [List.length_cons, show a + (p.ap.length + 1) = a + 1 + p.ap.length by omega] at k3
 rw [List.length_append, List.length_cons, List.length_cons, show a + (p.ap.length + 1 + (p.nm.length + 1)) = a + 1 + p.ap.length + 1 + p.nm.length by omega] at k4
 have k5 := k4.right
 rw [show [u8b p.kd].length = 1 from rfl] at k5
 unfold prV pasV
 rw [txS_at k1 (by omega) (by omega), txS_at k3 (by omega) (by omega), txV_at k1 (by omega) (by omega), txV_at k3 (by omega) (by omega), byV_at k4.left (by omega), u8b_nat hb.kd, tkS_at (n := 1) (by omega),
  lsV_lst paB (imPaS bs st) (paV bs st) p.pa (fun x hx a ha hs => imPaS_at (hb.pa x hx) ha hs) (fun x hx a ha hs => paV_at (hb.pa x hx) ha hs) k5 (by omega) (by omega)]
end
set_option maxHeartbeats 1000000 in
theorem dbOfL_db {d : DbD} (h : DbB d) (hN : (dbB d).length ≤ 900000) : dbOfL (dbB d) (dbSecs d) = d := by
 have hR := rdF_db h hN
 have hhd : imHdF (dbB d) = d.hd := by
  unfold rdF at hR
  split at hR
  ·cases hg : rdG (dbB d) 4 1 4 with
   | none => rw [hg] at hR; cases hR
   | some l => rw [hg] at hR; injection hR with hR; exact congrArg Prod.fst hR
  ·cases hR
 have hL := dbB_lenE d
 have A0 : AtB (dbB d) 0 (dbB d) := ⟨by rw [List.drop_zero, List.take_length], by omega⟩
 have e : dbB d = magicL ++ (secB (UInt8.ofNat 1) (hdB d.hd) ++ (secB (UInt8.ofNat 2) (lowB (d.fx.length : Int) 2 ++ d.fx.flatMap fxB) ++ (secB (UInt8.ofNat 3) (lowB (d.aw.length : Int) 2 ++ d.aw.flatMap awB) ++ (secB (UInt8.ofNat 4) (lowB (d.pr.length : Int) 2 ++ d.pr.flatMap prB) ++ [])))) := rfl
 obtain ⟨bs, hbs⟩ : ∃ bs, dbB d = bs := ⟨_, rfl⟩
 have A1 : AtB bs 4 (secB (UInt8.ofNat 1) (hdB d.hd) ++ (secB (UInt8.ofNat 2) (lowB (d.fx.length : Int) 2 ++ d.fx.flatMap fxB) ++ (secB (UInt8.ofNat 3) (lowB (d.aw.length : Int) 2 ++ d.aw.flatMap awB) ++ (secB (UInt8.ofNat 4) (lowB (d.pr.length : Int) 2 ++ d.pr.flatMap prB) ++ [])))) := by
  have A2 : AtB bs 0 (magicL ++ (secB (UInt8.ofNat 1) (hdB d.hd) ++ (secB (UInt8.ofNat 2) (lowB (d.fx.length : Int) 2 ++ d.fx.flatMap fxB) ++ (secB (UInt8.ofNat 3) (lowB (d.aw.length : Int) 2 ++ d.aw.flatMap awB) ++ (secB (UInt8.ofNat 4) (lowB (d.pr.length : Int) 2 ++ d.pr.flatMap prB) ++ []))))) := by rw [← e, ← hbs]; exact A0
  exact A2.right
 rw [hbs] at hL hhd ⊢
 clear e hbs A0 hR
 have B1 := A1.right
 rw [secB_len] at B1
 have s2 := B1.left
 have B2 := B1.right
 rw [secB_len, List.length_append, lowB_len] at B2
 have s3 := B2.left
 have B3 := B2.right
 rw [secB_len, List.length_append, lowB_len] at B3
 have s4 := B3.left
 obtain ⟨n1, hn1⟩ : ∃ n, (hdB d.hd).length = n := ⟨_, rfl⟩
 obtain ⟨n2, hn2⟩ : ∃ n, (d.fx.flatMap fxB).length = n := ⟨_, rfl⟩
 obtain ⟨n3, hn3⟩ : ∃ n, (d.aw.flatMap awB).length = n := ⟨_, rfl⟩
 obtain ⟨n4, hn4⟩ : ∃ n, (d.pr.flatMap prB).length = n := ⟨_, rfl⟩
 have c2 := secB_con s2
 have c3 := secB_con s3
 have c4 := secB_con s4
 have hnf := h.nf; have hna := h.na; have hnp := h.np
 rw [hn1] at c2 c3 c4 hL
 rw [hn2] at c3 c4 hL
 rw [hn3] at c4 hL
 rw [hn4] at hL
 have f2 : fxOf bs (dbSecs d) = d.fx := by
  have hx : sxO (dbSecs d) 1 = (2, 4 + (5 + n1) + 5, 2 + n2, d.fx.length) := by
   show (2, 9 + (hdB d.hd).length + 5, 2 + (d.fx.flatMap fxB).length, d.fx.length) = _
   rw [hn1, hn2, show 9 + n1 + 5 = 4 + (5 + n1) + 5 by omega]
  unfold fxOf fxsV
  rw [hx]
  dsimp only
  refine lsV_lst fxB _ _ d.fx (fun x hx a ha hs => fiS_at (h.fx x hx) ha hs) (fun x hx a ha hs => fxV_at (h.fx x hx) ha hs) c2 (by omega) ?_
  omega
 have f3 : awOf bs (dbSecs d) = d.aw := by
  have hx : sxO (dbSecs d) 2 = (3, 4 + (5 + n1) + (5 + (2 + n2)) + 5, 2 + n3, d.aw.length) := by
   show (3, 9 + (hdB d.hd).length + 5 + (2 + (d.fx.flatMap fxB).length) + 5, 2 + (d.aw.flatMap awB).length, d.aw.length) = _
   rw [hn1, hn2, hn3, show 9 + n1 + 5 + (2 + n2) + 5 = 4 + (5 + n1) + (5 + (2 + n2)) + 5 by omega]
  unfold awOf awsV
  rw [hx]
  dsimp only
  refine lsV_lst awB _ _ d.aw (fun x hx a ha hs => awS_at (h.aw x hx) ha hs) (fun x hx a ha hs => awV_at (h.aw x hx) ha hs) c3 (by omega) ?_
  omega
 have f4 : prOf bs (dbSecs d) = d.pr := by
  have hx : sxO (dbSecs d) 3 = (4, 4 + (5 + n1) + (5 + (2 + n2)) + (5 + (2 + n3)) + 5, 2 + n4, d.pr.length) := by
   show (4, 9 + (hdB d.hd).length + 5 + (2 + (d.fx.flatMap fxB).length) + 5 + (2 + (d.aw.flatMap awB).length) + 5, 2 + (d.pr.flatMap prB).length, d.pr.length) = _
   rw [hn1, hn2, hn3, hn4, show 9 + n1 + 5 + (2 + n2) + 5 + (2 + n3) + 5 = 4 + (5 + n1) + (5 + (2 + n2)) + (5 + (2 + n3)) + 5 by omega]
  unfold prOf prsV
  rw [hx]
  dsimp only
  refine lsV_lst prB _ _ d.pr (fun x hx a ha hs => prS_at (h.pr x hx) ha hs) (fun x hx a ha hs => prV_at (h.pr x hx) ha hs) c4 (by omega) ?_
  omega
 unfold dbOfL
 rw [hhd, f2, f3, f4]
end Go.Proofs.YtlhniiakacbbeaaGreatDoor
