/-
  Plain values of what is read out of an image; rows of lists that stand while other blocks are written.
-/
import Derived.Test.YtfdhinbojbohcaaGreatDoorMG08
import Derived.Test.YtfdhinbojbohcaaGreatDoorImA
import Derived.Test.YtfdhinbojbohcaaGreatDoorMG04
namespace Go.Proofs.YtfdhinbojbohcaaGreatDoor
open Go.RowKit
set_option linter.unusedVariables false
set_option linter.unusedSimpArgs false
section
variable (bs : List UInt8) (st : Nat)
def fxV (s : RS) : Fx := ⟨txV bs st s, txV bs st (txS bs st s), (byV bs st (txS bs st (txS bs st s))).toNat, n8V bs st (tkS st 1 (txS bs st (txS bs st s))), n8V bs st (n8S st (tkS st 1 (txS bs st (txS bs st s)))), n8V bs st (n8S st (n8S st (tkS st 1 (txS bs st (txS bs st s))))), n8V bs st (n8S st (n8S st (n8S st (tkS st 1 (txS bs st (txS bs st s))))))⟩
def ptV (s : RS) : Pt := ⟨txV bs st s, n8V bs st (txS bs st s), n8V bs st (n8S st (txS bs st s)), (byV bs st (n8S st (n8S st (txS bs st s)))).toNat⟩
def lgV (s : RS) : Lg := ⟨(byV bs st s).toNat, txV bs st (tkS st 1 s), txV bs st (txS bs st (tkS st 1 s)), (byV bs st (txS bs st (txS bs st (tkS st 1 s)))).toNat, ((byV bs st (legA bs st s)).toNat : Int) == 1, legN bs st s 0, legN bs st s 1, legN bs st s 2, legN bs st s 3, legN bs st s 4, legN bs st s 5, legN bs st s 6, legN bs st s 7⟩
end
/-- values, one behind the other -/
def lsV {α : Type} (val : RS → α) (one : RS → RS) : Nat → RS → List α
  | 0, _ => []
  | n + 1, s => val s :: lsV val one n (one s)
def itO (one : RS → RS) : Nat → RS → RS
  | 0, s => s
  | n + 1, s => itO one n (one s)
theorem itO_snoc (one : RS → RS) : ∀ (n : Nat) (s : RS), itO one (n + 1) s = one (itO one n s)
  | 0, _ => rfl
  | n + 1, s => itO_snoc one n (one s)
theorem lsV_snoc {α : Type} (val : RS → α) (one : RS → RS) : ∀ (n : Nat) (s : RS), lsV val one (n + 1) s = lsV val one n s ++ [val (itO one n s)]
  | 0, _ => rfl
  | n + 1, s => by
    show val s :: lsV val one (n + 1) (one s) = _
    rw [lsV_snoc val one n (one s)]; rfl
theorem lsV_len {α : Type} (val : RS → α) (one : RS → RS) : ∀ (n : Nat) (s : RS), (lsV val one n s).length = n
  | 0, _ => rfl
  | n + 1, s => by show (lsV val one n (one s)).length + 1 = _; rw [lsV_len val one n]
theorem lsV_all {α : Type} {P : α → Prop} {val : RS → α} {one : RS → RS} (h : ∀ s, P (val s)) : ∀ (n : Nat) (s : RS), ∀ x ∈ lsV val one n s, P x
  | 0, _, x, hx => by cases hx
  | n + 1, s, x, hx => by
    rcases List.mem_cons.1 hx with rfl | hx
    · exact h s
    · exact lsV_all h n (one s) x hx
/-- a chain of rows whose cells are values' -/
theorem chn_val {α : Type} {R : RS → List Value → Prop} {one : RS → RS} {val : RS → α} {cf : α → List Value} (hR : ∀ s c, R s c → c = cf (val s)) (s0 : RS) :
    ∀ (L : List (List Value)) (s : RS), Chn R one s0 L s → s = itO one L.length s0 ∧ L.reverse = (lsV val one L.length s0).map cf
  | [], s, h => ⟨h, rfl⟩
  | c :: t, s, h => by
    obtain ⟨s', h1, _, h2, rfl⟩ := h
    obtain ⟨h3, h4⟩ := chn_val hR s0 t s' h1
    rw [List.length_cons, itO_snoc, lsV_snoc, List.reverse_cons, h4, hR _ _ h2, h3, List.map_append]
    exact ⟨rfl, rfl⟩
section
variable (bs : List UInt8) (st : Nat)
def ptsV (s : RS) : List Pt := lsV (ptV bs st) (ptS bs st) (lsN bs st s) (tkS st 2 s)
def lgsV (s : RS) : List Lg := lsV (lgV bs st) (leS bs st) (lsN bs st s) (tkS st 2 s)
def fxsV (s : RS) : List Fx := lsV (fxV bs st) (fiS bs st) (lsN bs st s) (tkS st 2 s)
def awV (s : RS) : AwD := ⟨txV bs st s, ptsV bs st (txS bs st s)⟩
def awsV (s : RS) : List AwD := lsV (awV bs st) (awS bs st) (lsN bs st s) (tkS st 2 s)
def paV (s : RS) : Pa := ⟨(byV bs st s).toNat, txV bs st (tkS st 1 s), lgsV bs st (txS bs st (tkS st 1 s))⟩
def pasV (s : RS) : List Pa := lsV (paV bs st) (imPaS bs st) (lsN bs st s) (tkS st 2 s)
def prV (s : RS) : Prc := ⟨txV bs st s, txV bs st (txS bs st s), (byV bs st (txS bs st (txS bs st s))).toNat, pasV bs st (tkS st 1 (txS bs st (txS bs st s)))⟩
def prsV (s : RS) : List Prc := lsV (prV bs st) (prS bs st) (lsN bs st s) (tkS st 2 s)
end
/-! ### rows that stand -/
/-- blocks from a place on stand, but for those of some types -/
structure TFrm (B : Nat) (Ts : List TypeId) (w w' : World) : Prop where
  size : w.heap.size ≤ w'.heap.size
  block : ∀ b cs t fr, B ≤ b → w.heap[b]? = some (.cells cs t fr) → t ∉ Ts → w'.heap[b]? = some (.cells cs t fr)
theorem TFrm.refl (B : Nat) (Ts : List TypeId) (w : World) : TFrm B Ts w w := ⟨Nat.le_refl _, fun _ _ _ _ _ h _ => h⟩
theorem TFrm.trans {B : Nat} {Ts : List TypeId} {a b c : World} (h : TFrm B Ts a b) (k : TFrm B Ts b c) : TFrm B Ts a c := ⟨Nat.le_trans h.size k.size, fun i cs t fr hi hc ht => k.block i cs t fr hi (h.block i cs t fr hi hc ht) ht⟩
theorem TFrm.mono {B B' : Nat} {Ts Ts' : List TypeId} {w w' : World} (h : TFrm B Ts w w') (hB : B ≤ B') (hT : ∀ t ∈ Ts, t ∈ Ts') : TFrm B' Ts' w w' := ⟨h.size, fun i cs t fr hi hc ht => h.block i cs t fr (by omega) hc (fun hh => ht (hT t hh))⟩
theorem TFrm.of_below {B : Nat} {Ts : List TypeId} {w w' : World} (h : Below w.heap.size w w') : TFrm B Ts w w' := ⟨h.size, fun i cs t fr _ hc _ => (h.block i (heap_lt hc)).trans hc⟩
theorem TFrm.of_frm {B g : Nat} {Ts : List TypeId} {w w' : World} (h : Frm (· = g) w w') (hg : g < B) : TFrm B Ts w w' := ⟨h.size, fun i cs t fr hi hc _ => (h.block i (heap_lt hc) (by omega)).trans hc⟩
theorem TFrm.of_frmT {B g : Nat} {Ts : List TypeId} {cs : Array Value} {t : TypeId} {w w' : World} (h : Frm (· = g) w w') (hg : Bx g cs t w) (ht : t ∈ Ts) : TFrm B Ts w w' := ⟨h.size, fun i cs' t' fr hi hc ht' => by
  refine (h.block i (heap_lt hc) (fun e => ?_)).trans hc
  subst e
  unfold Bx at hg
  rw [hg] at hc
  injection hc with hc
  injection hc with _ e2 _
  exact ht' (e2 ▸ ht)⟩
theorem TFrm.grown {B base size n : Nat} {Ts : List TypeId} {T : TypeId} {v : Value} {xs : List Value} {w w' : World} (h : w.grownBy w' v.ownBlock) (ho : w.ownsRow base T size v n xs) (hT : T ∈ Ts) : TFrm B Ts w w' := ⟨h.size, fun i cs t fr hi hc ht => by
  refine (h.block i (heap_lt hc) (fun e => ?_)).trans hc
  obtain ⟨_, ⟨rfl, _⟩ | ⟨g, cap, cur, rfl, _, hh, _⟩⟩ := ho
  · cases e
  · have e1 : i = g := by simpa [Value.ownBlock] using e
    subst e1
    rw [hh] at hc
    injection hc with hc
    injection hc with _ e2 _
    exact ht (e2 ▸ hT)⟩
theorem own_tf {B base size n : Nat} {Ts : List TypeId} {T : TypeId} {v : Value} {xs : List Value} {w w' : World} (h : w.ownsRow base T size v n xs) (hf : TFrm B Ts w w') (hB : B ≤ base) (hT : T ∉ Ts) : w'.ownsRow base T size v n xs := by
  obtain ⟨hl, h2 | ⟨b, cap, cur, hv, hb, hh, r⟩⟩ := h
  · exact ⟨hl, .inl h2⟩
  · exact ⟨hl, .inr ⟨b, cap, cur, hv, hb, hf.block b _ _ _ (by omega) hh hT, r⟩⟩
theorem own_base {base base' size n : Nat} {T : TypeId} {v : Value} {xs : List Value} {w : World} (h : w.ownsRow base T size v n xs) (hb : base' ≤ base) : w.ownsRow base' T size v n xs := by
  obtain ⟨hl, h2 | ⟨b, cap, cur, hv, hb2, r⟩⟩ := h
  · exact ⟨hl, .inl h2⟩
  · exact ⟨hl, .inr ⟨b, cap, cur, hv, by omega, r⟩⟩
/-- an airway's points, of the call's own -/
def OwnAw (B : Nat) (w : World) (x : Value × AwD) : Prop := w.ownsRow B 42 4 x.1 x.2.ps.length (x.2.ps.flatMap ptc)
def OwnPa (B : Nat) (w : World) (x : Value × Pa) : Prop := w.ownsRow B 53 13 x.1 x.2.lg.length (x.2.lg.flatMap lgc)
def OwnPr (B : Nat) (w : World) (x : Value × Prc) : Prop := ∃ L : List (Value × Pa), L.map (·.2) = x.2.pa ∧ w.ownsRow B 50 3 x.1 L.length (L.flatMap pac) ∧ ∀ y ∈ L, OwnPa B w y
section
variable {B B' : Nat} {Ts : List TypeId} {w w' : World}
theorem OwnAw.tf {x : Value × AwD} (h : OwnAw B w x) (hf : TFrm B Ts w w') (hT : 42 ∉ Ts) : OwnAw B w' x := own_tf h hf (Nat.le_refl _) hT
theorem OwnPa.tf {x : Value × Pa} (h : OwnPa B w x) (hf : TFrm B Ts w w') (hT : 53 ∉ Ts) : OwnPa B w' x := own_tf h hf (Nat.le_refl _) hT
theorem OwnPr.tf {x : Value × Prc} (h : OwnPr B w x) (hf : TFrm B Ts w w') (hT : 53 ∉ Ts) (hT2 : 50 ∉ Ts) : OwnPr B w' x := by
  obtain ⟨L, h1, h2, h3⟩ := h
  exact ⟨L, h1, own_tf h2 hf (Nat.le_refl _) hT2, fun y hy => (h3 y hy).tf hf hT⟩
theorem OwnAw.base {x : Value × AwD} (h : OwnAw B w x) (hb : B' ≤ B) : OwnAw B' w x := own_base h hb
theorem OwnPa.base {x : Value × Pa} (h : OwnPa B w x) (hb : B' ≤ B) : OwnPa B' w x := own_base h hb
theorem OwnPr.base {x : Value × Prc} (h : OwnPr B w x) (hb : B' ≤ B) : OwnPr B' w x := by
  obtain ⟨L, h1, h2, h3⟩ := h
  exact ⟨L, h1, own_base h2 hb, fun y hy => (h3 y hy).base hb⟩
end
/-- a list whose elements have rows of their own -/
def ImLPostS {α : Type} (val : RS → α) (cf : Value × α → List Value) (Own : Nat → World → Value × α → Prop) (one : RS → RS) (T : TypeId) (K : Nat) (g gb ob c st : Nat) (bs : List UInt8) (s : RS) (w : World) (e : Ending) (w' : World) : Prop :=
  ∃ v, e = .returned v ∧ (∃ A n c', v = .slice A n c') ∧ (lsN bs st s = 0 → v = .slice none 0 0) ∧ ((lsS bs st one s).2 = false → ∃ L : List (Value × α), L.map (·.2) = lsV val one (lsN bs st s) (tkS st 2 s) ∧ w'.ownsRow w.heap.size T K v L.length (L.flatMap cf) ∧ ∀ x ∈ L, Own w.heap.size w' x) ∧ RdPTo g gb ob c st bs (lsS bs st one s) w w'
/-- while a list is read -/
def LsInv {α : Type} (val : RS → α) (cf : Value × α → List Value) (Own : Nat → World → Value × α → Prop) (one : RS → RS) (T : TypeId) (K B k : Nat) (s1 : RS) (v : Value) (sk : RS) (w : World) : Prop :=
  (∃ A n c', v = .slice A n c') ∧ (sk.2 = false → sk = itO one k s1 ∧ ∃ L : List (Value × α), L.length = k ∧ L.map (·.2) = lsV val one k s1 ∧ w.ownsRow B T K v L.length (L.flatMap cf) ∧ ∀ x ∈ L, Own B w x)
end Go.Proofs.YtfdhinbojbohcaaGreatDoor
