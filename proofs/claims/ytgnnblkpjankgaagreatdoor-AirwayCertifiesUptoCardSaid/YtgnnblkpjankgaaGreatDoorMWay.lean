/-
  Several texts as one.
  Plain laws: least labels (a length, then a number of hops) over a graph: they are unique; the search that takes the least open label finds them; a search by relaxing ends at them.
  Plain laws: the way back over least labels; walks over hops; the verdict on a way with labels.
-/
import Derived.Test.YtgnnblkpjankgaaGreatDoorReachL
namespace Go.Proofs.YtgnnblkpjankgaaGreatDoor
set_option linter.unusedVariables false
set_option linter.unusedSimpArgs false

/-- a label: a length and a number of hops -/
abbrev Lb := Int × Int
def lx (a b : Lb) : Prop := a.1 < b.1 ∨ a.1 = b.1 ∧ a.2 < b.2
instance (a b : Lb) : Decidable (lx a b) := by unfold lx; infer_instance
/-- one hop of length d more -/
def ad (a : Lb) (d : Int) : Lb := (a.1 + d, a.2 + 1)
theorem lx_irrefl (a : Lb) : ¬ lx a a := by unfold lx; omega
theorem le_trans' {a b c : Lb} (h : ¬ lx b a) (k : ¬ lx c b) : ¬ lx c a := by unfold lx at *; omega
theorem le_anti {a b : Lb} (h : ¬ lx b a) (k : ¬ lx a b) : a = b := by
  unfold lx at *
  exact Prod.ext (by omega) (by omega)
theorem le_ad {a b : Lb} (h : ¬ lx b a) (d : Int) : ¬ lx (ad b d) (ad a d) := by unfold lx ad at *; simp only; omega
theorem le_ad_self {a : Lb} {d : Int} (h : 0 ≤ d) : ¬ lx (ad a d) a := by unfold lx ad at *; simp only; omega
theorem le_of_lx {a b : Lb} (h : lx a b) : ¬ lx b a := by unfold lx at *; omega

section
/-- the least labels of what can be reached from s -/
structure Opt (nx : Rf → List Rf) (wt : Rf → Rf → Int) (s : Rf) (R : Rf → Prop) (f : Rf → Lb) : Prop where
  rs : R s
  base : f s = (0, 0)
  pos : ∀ v, R v → 0 ≤ (f v).1 ∧ 0 ≤ (f v).2
  closed : ∀ u, R u → ∀ v ∈ nx u, R v
  tri : ∀ u, R u → ∀ v ∈ nx u, ¬ lx (ad (f u) (wt u v)) (f v)
  pred : ∀ v, R v → v = s ∨ ∃ u, R u ∧ v ∈ nx u ∧ f v = ad (f u) (wt u v)
variable {nx : Rf → List Rf} {wt : Rf → Rf → Int} {s : Rf} {R : Rf → Prop}
theorem Opt.le {f g : Rf → Lb} (hf : Opt nx wt s R f) (hg : Opt nx wt s R g) : ∀ (n : Nat) (v : Rf), R v → (f v).2 ≤ (n : Int) → ¬ lx (f v) (g v) := by
  intro n
  induction n with
  | zero =>
    intro v hv hn
    rcases hf.pred v hv with rfl | ⟨u, hu, huv, e⟩
    · rw [hf.base, hg.base]; exact lx_irrefl _
    · exfalso
      have h1 := (hf.pos u hu).2
      have h2 : (f v).2 = (f u).2 + 1 := by rw [e]; rfl
      omega
  | succ n ih =>
    intro v hv hn
    rcases hf.pred v hv with rfl | ⟨u, hu, huv, e⟩
    · rw [hf.base, hg.base]; exact lx_irrefl _
    · have h2 : (f v).2 = (f u).2 + 1 := by rw [e]; rfl
      have h3 := ih u hu (by omega)
      rw [e]
      exact le_trans' (hg.tri u hu v huv) (le_ad h3 _)
theorem Opt.uniq {f g : Rf → Lb} (hf : Opt nx wt s R f) (hg : Opt nx wt s R g) (v : Rf) (hv : R v) : f v = g v :=
  le_anti (hg.le hf ((g v).2.toNat) v hv (by omega)) (hf.le hg ((f v).2.toNat) v hv (by omega))

/-! ### the search that takes the least open label -/
/-- what is known of a reference: done, else open -/
def lab (dn op : Rf → Option Lb) (v : Rf) : Option Lb := (dn v).or (op v)
/-- the state of the search: of each done reference the hops P have been looked at; M: no hop is longer; c: no label has more hops -/
structure Srch (nx : Rf → List Rf) (wt : Rf → Rf → Int) (s : Rf) (R : Rf → Prop) (M : Int) (P : Rf → Rf → Prop) (c : Int) (dn op : Rf → Option Lb) : Prop where
  inR : ∀ v b, lab dn op v = some b → R v
  apart : ∀ v b, dn v = some b → op v = none
  st : lab dn op s = some (0, 0)
  low : ∀ u v a b, dn u = some a → op v = some b → ¬ lx b a
  tri : ∀ u a v, dn u = some a → P u v → ∃ b, lab dn op v = some b ∧ ¬ lx (ad a (wt u v)) b
  pred : ∀ v b, lab dn op v = some b → v = s ∧ b = (0, 0) ∨ ∃ u a, dn u = some a ∧ v ∈ nx u ∧ b = ad a (wt u v)
  bd : ∀ v b, lab dn op v = some b → 0 ≤ b.1 ∧ 0 ≤ b.2 ∧ b.2 ≤ c ∧ b.1 ≤ b.2 * M
/-- a function changed at one place -/
def setF (m : Rf → Option Lb) (x : Rf) (b : Option Lb) : Rf → Option Lb := fun v => if v = x then b else m v
theorem lab_dn {dn op : Rf → Option Lb} {v : Rf} {b : Lb} (h : dn v = some b) : lab dn op v = some b := by unfold lab; rw [h]; rfl
theorem lab_op {dn op : Rf → Option Lb} {v : Rf} (h : dn v = none) : lab dn op v = op v := by unfold lab; rw [h]; rfl
theorem setF_same (m : Rf → Option Lb) (x : Rf) (b : Option Lb) : setF m x b x = b := by unfold setF; rw [if_pos rfl]
theorem setF_other (m : Rf → Option Lb) {x v : Rf} (b : Option Lb) (h : v ≠ x) : setF m x b v = m v := by unfold setF; rw [if_neg h]
theorem Srch.start (hs : R s) (M : Int) (P : Rf → Rf → Prop) : Srch nx wt s R M P 0 (fun _ => none) (setF (fun _ => none) s (some (0, 0))) := by
  have e : ∀ v b, lab (fun _ => none) (setF (fun _ => none) s (some (0, 0))) v = some b → v = s ∧ b = (0, 0) := by
    intro v b h
    rw [lab_op rfl] at h
    unfold setF at h
    split at h
    · next hv => exact ⟨hv, by simpa using h.symm⟩
    · cases h
  refine ⟨fun v b h => by rw [(e v b h).1]; exact hs, fun v b h => (by cases h), ?_, fun u v a b h => (by cases h), fun u a v h => (by cases h), fun v b h => .inl (e v b h), fun v b h => ?_⟩
  · rw [lab_op rfl, setF_same]
  · rw [(e v b h).2]; simp
/-- the least open label is done -/
theorem Srch.take {M c : Int} {dn op : Rf → Option Lb} (h : Srch nx wt s R M (fun u v => v ∈ nx u) c dn op) {x : Rf} {a : Lb} (hx : op x = some a) (hmin : ∀ v b, op v = some b → ¬ lx b a) :
    Srch nx wt s R M (fun u v => v ∈ nx u ∧ u ≠ x) (c + 1) (setF dn x (some a)) (setF op x none) ∧ a.2 + 1 ≤ c + 1 ∧ dn x = none := by
  have hdx : dn x = none := by
    cases hd : dn x with
    | none => rfl
    | some b => rw [h.apart x b hd] at hx; cases hx
  have hl : ∀ v, lab (setF dn x (some a)) (setF op x none) v = lab dn op v := by
    intro v
    by_cases hv : v = x
    · subst hv
      rw [lab_dn (setF_same _ _ _), lab_op hdx, hx]
    · unfold lab; rw [setF_other _ _ hv, setF_other _ _ hv]
  have hbx := h.bd x a (by rw [lab_op hdx]; exact hx)
  refine ⟨⟨?_, ?_, ?_, ?_, ?_, ?_, ?_⟩, by omega, hdx⟩
  · intro v b hv; rw [hl] at hv; exact h.inR v b hv
  · intro v b hv
    by_cases e : v = x
    · rw [e]; exact setF_same _ _ _
    · rw [setF_other _ _ e] at hv ⊢; exact h.apart v b hv
  · rw [hl]; exact h.st
  · intro u v a' b hu hv
    have hv' : op v = some b := by
      by_cases e : v = x
      · rw [e, setF_same] at hv; cases hv
      · rw [setF_other _ _ e] at hv; exact hv
    by_cases e : u = x
    · rw [e, setF_same, Option.some.injEq] at hu; rw [← hu]; exact hmin v b hv'
    · rw [setF_other _ _ e] at hu; exact h.low u v a' b hu hv'
  · intro u a' v hu hP
    rw [setF_other _ _ hP.2] at hu
    obtain ⟨b, hb, h2⟩ := h.tri u a' v hu hP.1
    exact ⟨b, by rw [hl]; exact hb, h2⟩
  · intro v b hv
    rw [hl] at hv
    rcases h.pred v b hv with h1 | ⟨u, a', hu, h2⟩
    · exact .inl h1
    · refine .inr ⟨u, a', ?_, h2⟩
      by_cases e : u = x
      · rw [e, hdx] at hu; cases hu
      · rw [setF_other _ _ e]; exact hu
  · intro v b hv
    rw [hl] at hv
    obtain ⟨h1, h2, h3, h4⟩ := h.bd v b hv
    exact ⟨h1, h2, by omega, h4⟩
/-- which hops have been looked at while those of x are under way -/
def Seen (nx : Rf → List Rf) (x : Rf) (pre : List Rf) (u v : Rf) : Prop := v ∈ nx u ∧ (u = x → v ∈ pre)
theorem Srch.seen0 {M c : Int} {dn op : Rf → Option Lb} {x : Rf} (h : Srch nx wt s R M (fun u v => v ∈ nx u ∧ u ≠ x) c dn op) : Srch nx wt s R M (Seen nx x []) c dn op :=
  ⟨h.inR, h.apart, h.st, h.low, fun u a v hu hP => h.tri u a v hu ⟨hP.1, fun e => by have := hP.2 e; cases this⟩, h.pred, h.bd⟩
theorem Srch.seenAll {M c : Int} {dn op : Rf → Option Lb} {x : Rf} (h : Srch nx wt s R M (Seen nx x (nx x)) c dn op) : Srch nx wt s R M (fun u v => v ∈ nx u) c dn op :=
  ⟨h.inR, h.apart, h.st, h.low, fun u a v hu hP => h.tri u a v hu ⟨hP, fun e => e ▸ hP⟩, h.pred, h.bd⟩
/-- a hop that changes nothing -/
theorem Srch.same {M c : Int} {dn op : Rf → Option Lb} {x : Rf} {pre : List Rf} (h : Srch nx wt s R M (Seen nx x pre) c dn op) {a : Lb} (hx : dn x = some a) {v : Rf} {b : Lb} (hv : lab dn op v = some b) (hle : ¬ lx (ad a (wt x v)) b) :
    Srch nx wt s R M (Seen nx x (pre ++ [v])) c dn op := by
  refine ⟨h.inR, h.apart, h.st, h.low, fun u a' z hu hP => ?_, h.pred, h.bd⟩
  by_cases e : u = x
  · subst e
    rw [hx, Option.some.injEq] at hu
    subst hu
    have hz := hP.2 rfl
    rw [List.mem_append, List.mem_singleton] at hz
    rcases hz with hz | hz
    · exact h.tri u a z hx ⟨hP.1, fun _ => hz⟩
    · rw [hz]; exact ⟨b, hv, hle⟩
  · exact h.tri u a' z hu ⟨hP.1, fun k => absurd k e⟩
/-- .. to what is done -/
theorem Srch.skip {M c : Int} {dn op : Rf → Option Lb} {x : Rf} {pre : List Rf} (hw : ∀ u v, 0 ≤ wt u v) (h : Srch nx wt s R M (Seen nx x pre) c dn op) {a : Lb} (hx : dn x = some a) (hmax : ∀ u b, dn u = some b → ¬ lx a b) {v : Rf} {b : Lb} (hv : dn v = some b) :
    Srch nx wt s R M (Seen nx x (pre ++ [v])) c dn op :=
  h.same hx (lab_dn hv) (le_trans' (hmax v b hv) (le_ad_self (hw x v)))
/-- .. to what is open with a label that is no greater -/
theorem Srch.keep {M c : Int} {dn op : Rf → Option Lb} {x : Rf} {pre : List Rf} (h : Srch nx wt s R M (Seen nx x pre) c dn op) {a : Lb} (hx : dn x = some a) {v : Rf} {b : Lb} (hv : dn v = none) (hb : op v = some b) (hle : ¬ lx (ad a (wt x v)) b) :
    Srch nx wt s R M (Seen nx x (pre ++ [v])) c dn op :=
  h.same hx (by rw [lab_op hv]; exact hb) hle
/-- a hop that lowers a label, or begins one -/
theorem Srch.put {M c : Int} {dn op : Rf → Option Lb} {x : Rf} {pre : List Rf} (hw : ∀ u v, 0 ≤ wt u v ∧ wt u v ≤ M) (h : Srch nx wt s R M (Seen nx x pre) c dn op) {a : Lb} (hx : dn x = some a) (hmax : ∀ u b, dn u = some b → ¬ lx a b) (hc : a.2 + 1 ≤ c)
    {v : Rf} (hvx : v ∈ nx x) (hR : R v) (hv : dn v = none) (hlt : ∀ b, op v = some b → lx (ad a (wt x v)) b) :
    Srch nx wt s R M (Seen nx x (pre ++ [v])) c dn (setF op v (some (ad a (wt x v)))) := by
  have ha := h.bd x a (lab_dn hx)
  have hwv := hw x v
  have e1 : lab dn (setF op v (some (ad a (wt x v)))) v = some (ad a (wt x v)) := by rw [lab_op hv, setF_same]
  have e2 : ∀ z, z ≠ v → lab dn (setF op v (some (ad a (wt x v)))) z = lab dn op z := fun z hz => by unfold lab; rw [setF_other _ _ hz]
  have hM : a.1 + wt x v ≤ (a.2 + 1) * M := by
    have h1 := ha.2.2.2
    have h2 : (a.2 + 1) * M = a.2 * M + M := by rw [Int.add_mul, Int.one_mul]
    omega
  have hsv : v ≠ s := by
    intro e
    have h1 := h.st
    rw [← e, lab_op hv] at h1
    have h2 := hlt _ h1
    unfold lx ad at h2
    simp only at h2
    omega
  refine ⟨?_, ?_, ?_, ?_, ?_, ?_, ?_⟩
  · intro z b hz
    by_cases e : z = v
    · rw [e]; exact hR
    · rw [e2 z e] at hz; exact h.inR z b hz
  · intro z b hz
    by_cases e : z = v
    · rw [e, hv] at hz; cases hz
    · rw [setF_other _ _ e]; exact h.apart z b hz
  · rw [e2 s (Ne.symm hsv)]; exact h.st
  · intro u z a' b hu hz
    by_cases e : z = v
    · rw [e, setF_same, Option.some.injEq] at hz
      rw [← hz]
      exact le_trans' (hmax u a' hu) (le_ad_self hwv.1)
    · rw [setF_other _ _ e] at hz; exact h.low u z a' b hu hz
  · intro u a' z hu hP
    by_cases e : z = v
    · subst e
      refine ⟨_, e1, ?_⟩
      by_cases eu : u = x
      · rw [eu, hx, Option.some.injEq] at hu
        rw [← hu, eu]; exact lx_irrefl _
      · obtain ⟨b, hb, h2⟩ := h.tri u a' z hu ⟨hP.1, fun k => absurd k eu⟩
        rw [lab_op hv] at hb
        exact le_trans' (le_of_lx (hlt b hb)) h2
    · rw [e2 z e]
      refine h.tri u a' z hu ⟨hP.1, fun k => ?_⟩
      have := hP.2 k
      rw [List.mem_append, List.mem_singleton] at this
      exact this.resolve_right e
  · intro z b hz
    by_cases e : z = v
    · rw [e, e1, Option.some.injEq] at hz
      rw [e]
      exact .inr ⟨x, a, hx, hvx, hz.symm⟩
    · rw [e2 z e] at hz; exact h.pred z b hz
  · intro z b hz
    by_cases e : z = v
    · rw [e, e1, Option.some.injEq] at hz
      rw [← hz]
      unfold ad
      simp only
      exact ⟨by omega, by omega, by omega, hM⟩
    · rw [e2 z e] at hz; exact h.bd z b hz
/-- nothing is open: what is done has the least labels -/
theorem Srch.opt {M c : Int} {dn op : Rf → Option Lb} (h : Srch nx wt s R M (fun u v => v ∈ nx u) c dn op) (h0 : ∀ v, op v = none) (hR : ∀ C : Rf → Prop, C s → (∀ u, C u → ∀ v ∈ nx u, C v) → ∀ v, R v → C v) :
    (∀ v, R v → ∃ b, dn v = some b) ∧ Opt nx wt s R (fun v => (dn v).getD (0, 0)) := by
  have hl : ∀ v, lab dn op v = dn v := fun v => by
    unfold lab
    rw [h0 v]
    cases dn v <;> rfl
  have key : ∀ v, R v → ∃ b, dn v = some b := by
    refine hR (fun v => ∃ b, dn v = some b) ⟨_, by rw [← hl]; exact h.st⟩ ?_
    rintro u ⟨a, ha⟩ v hv
    obtain ⟨b, hb, _⟩ := h.tri u a v ha hv
    exact ⟨b, by rw [← hl]; exact hb⟩
  refine ⟨key, ?_, ?_, ?_, ?_, ?_, ?_⟩
  · exact h.inR s _ h.st
  · show (dn s).getD (0, 0) = (0, 0)
    rw [← hl, h.st]; rfl
  · intro v hv
    obtain ⟨b, hb⟩ := key v hv
    have := h.bd v b (by rw [hl]; exact hb)
    show 0 ≤ ((dn v).getD (0, 0)).1 ∧ _
    rw [hb]
    exact ⟨this.1, this.2.1⟩
  · intro u hu v hv
    obtain ⟨a, ha⟩ := key u hu
    obtain ⟨b, hb, _⟩ := h.tri u a v ha hv
    exact h.inR v b hb
  · intro u hu v hv
    obtain ⟨a, ha⟩ := key u hu
    obtain ⟨b, hb, h2⟩ := h.tri u a v ha hv
    rw [hl] at hb
    show ¬ lx (ad ((dn u).getD (0, 0)) (wt u v)) ((dn v).getD (0, 0))
    rw [ha, hb]; exact h2
  · intro v hv
    obtain ⟨b, hb⟩ := key v hv
    rcases h.pred v b (by rw [hl]; exact hb) with ⟨h1, _⟩ | ⟨u, a, hu, h2, h3⟩
    · exact .inl h1
    · refine .inr ⟨u, h.inR u a (by rw [hl]; exact hu), h2, ?_⟩
      show (dn v).getD (0, 0) = ad ((dn u).getD (0, 0)) (wt u v)
      rw [hb, hu]; exact h3

/-! ### the search by relaxing -/
def inf : Lb := (4611686018427387904, 4611686018427387904)
/-- one hop is looked at: the labels, and whether one has changed -/
def rx (wt : Rf → Rf → Int) (st : (Rf → Lb) × Bool) (e : Rf × Rf) : (Rf → Lb) × Bool :=
  if (st.1 e.1).1 = 4611686018427387904 then st
  else if lx (ad (st.1 e.1) (wt e.1 e.2)) (st.1 e.2) then ((fun z => if z = e.2 then ad (st.1 e.1) (wt e.1 e.2) else st.1 z), true) else st
structure Rlx (s : Rf) (R : Rf → Prop) (f : Rf → Lb) (M c : Int) (g : Rf → Lb) : Prop where
  base : g s = (0, 0)
  ge : ∀ v, R v → ¬ lx (g v) (f v)
  bd : ∀ v, R v → g v = inf ∨ 0 ≤ (g v).1 ∧ 0 ≤ (g v).2 ∧ (g v).2 ≤ c ∧ (g v).1 ≤ (g v).2 * M
/-- the numbers are small -/
structure Small (wt : Rf → Rf → Int) (R : Rf → Prop) (f : Rf → Lb) (M : Int) : Prop where
  w0 : ∀ u v, 0 ≤ wt u v
  wM : ∀ u v, wt u v ≤ M
  f1 : ∀ v, R v → (f v).1 < 4611686018427387904
theorem rx_ways (wt : Rf → Rf → Int) (g : Rf → Lb) (b : Bool) (u v : Rf) :
    ((g u).1 ≠ 4611686018427387904 ∧ lx (ad (g u) (wt u v)) (g v) ∧ rx wt (g, b) (u, v) = ((fun z => if z = v then ad (g u) (wt u v) else g z), true)) ∨
    (((g u).1 = 4611686018427387904 ∨ ¬ lx (ad (g u) (wt u v)) (g v)) ∧ rx wt (g, b) (u, v) = (g, b)) := by
  unfold rx
  simp only
  by_cases h1 : (g u).1 = 4611686018427387904
  · rw [if_pos h1]; exact .inr ⟨.inl h1, rfl⟩
  · rw [if_neg h1]
    by_cases h2 : lx (ad (g u) (wt u v)) (g v)
    · rw [if_pos h2]; exact .inl ⟨h1, h2, rfl⟩
    · rw [if_neg h2]; exact .inr ⟨.inr h2, rfl⟩
theorem Rlx.step {f g : Rf → Lb} {M c : Int} (hf : Opt nx wt s R f) (hs : Small wt R f M) (h : Rlx s R f M c g) {u v : Rf} (hu : R u) (hv : v ∈ nx u) (b : Bool) : Rlx s R f M (c + 1) (rx wt (g, b) (u, v)).1 := by
  have h0 := hs.w0 u v
  have hM := hs.wM u v
  rcases rx_ways wt g b u v with ⟨h1, h2, e⟩ | ⟨_, e⟩
  · rw [e]
    have hbu : 0 ≤ (g u).1 ∧ 0 ≤ (g u).2 ∧ (g u).2 ≤ c ∧ (g u).1 ≤ (g u).2 * M := by
      rcases h.bd u hu with h3 | h3
      · rw [h3] at h1; exact absurd rfl h1
      · exact h3
    have hmul : ((g u).2 + 1) * M = (g u).2 * M + M := by rw [Int.add_mul, Int.one_mul]
    refine ⟨?_, ?_, ?_⟩
    · show (if s = v then _ else g s) = _
      split
      · next e2 =>
        exfalso
        rw [← e2, h.base] at h2
        rw [← e2] at h0
        unfold lx ad at h2
        simp only at h2
        omega
      · exact h.base
    · intro z hz
      show ¬ lx (if z = v then _ else g z) (f z)
      split
      · next e2 => rw [e2]; exact le_trans' (hf.tri u hu v hv) (le_ad (h.ge u hu) _)
      · exact h.ge z hz
    · intro z hz
      show (if z = v then _ else g z) = inf ∨ _
      by_cases e2 : z = v
      · simp only [if_pos e2]
        unfold ad
        simp only
        right
        exact ⟨by omega, by omega, by omega, by omega⟩
      · simp only [if_neg e2]
        rcases h.bd z hz with h3 | ⟨h3, h4, h5, h6⟩
        · exact .inl h3
        · exact .inr ⟨h3, h4, by omega, h6⟩
  · rw [e]
    exact ⟨h.base, h.ge, fun z hz => by
      rcases h.bd z hz with h3 | ⟨h3, h4, h5, h6⟩
      · exact .inl h3
      · exact .inr ⟨h3, h4, Int.le_trans h5 (by omega), h6⟩⟩
/-- a least label stays -/
theorem Rlx.exact {f g : Rf → Lb} {M c : Int} (hf : Opt nx wt s R f) (h : Rlx s R f M c g) {u v : Rf} (hu : R u) (hv : v ∈ nx u) (b : Bool) {z : Rf} (hz : g z = f z) : (rx wt (g, b) (u, v)).1 z = f z := by
  rcases rx_ways wt g b u v with ⟨h1, h2, e⟩ | ⟨_, e⟩
  · rw [e]
    show (if z = v then _ else g z) = _
    split
    · next e2 =>
      subst e2
      rw [hz] at h2
      exact absurd h2 (le_trans' (hf.tri u hu z hv) (le_ad (h.ge u hu) _))
    · exact hz
  · rw [e]; exact hz
/-- a hop from a least label that gives a least one -/
theorem Rlx.gain {f g : Rf → Lb} {M c : Int} (hs : Small wt R f M) (h : Rlx s R f M c g) {u v : Rf} (hu : R u) (hR : R v) (b : Bool) (he : g u = f u) (hp : f v = ad (f u) (wt u v)) : (rx wt (g, b) (u, v)).1 v = f v := by
  rcases rx_ways wt g b u v with ⟨h1, h2, e⟩ | ⟨h1, e⟩
  · rw [e]
    show (if v = v then _ else g v) = _
    rw [if_pos rfl, he, hp]
  · rw [e]
    rcases h1 with h1 | h1
    · have := hs.f1 u hu
      rw [he] at h1
      omega
    · rw [he, ← hp] at h1
      exact le_anti h1 (h.ge v hR)
def rxs (wt : Rf → Rf → Int) (es : List (Rf × Rf)) (st : (Rf → Lb) × Bool) : (Rf → Lb) × Bool := es.foldl (rx wt) st
theorem rxs_snoc (wt : Rf → Rf → Int) (es : List (Rf × Rf)) (e : Rf × Rf) (st : (Rf → Lb) × Bool) : rxs wt (es ++ [e]) st = rx wt (rxs wt es st) e := by
  unfold rxs; rw [List.foldl_append]; rfl
/-- hops between references of R -/
def Hopping (nx : Rf → List Rf) (R : Rf → Prop) (es : List (Rf × Rf)) : Prop := ∀ e ∈ es, R e.1 ∧ e.2 ∈ nx e.1
theorem Hopping.front {es : List (Rf × Rf)} {e : Rf × Rf} (h : Hopping nx R (es ++ [e])) : Hopping nx R es ∧ R e.1 ∧ e.2 ∈ nx e.1 :=
  ⟨fun x hx => h x (List.mem_append_left _ hx), h e (List.mem_append_right _ (List.mem_singleton.2 rfl))⟩
theorem Hopping.take {es : List (Rf × Rf)} (h : Hopping nx R es) (k : Nat) : Hopping nx R (es.take k) := fun x hx => h x (List.mem_of_mem_take hx)
theorem list_snoc {α : Type} (P : List α → Prop) (h0 : P []) (h1 : ∀ l a, P l → P (l ++ [a])) (l : List α) : P l := by
  have key : ∀ (n : Nat) (l : List α), l.length = n → P l := by
    intro n
    induction n with
    | zero => intro l h; rw [List.eq_nil_of_length_eq_zero h]; exact h0
    | succ n ih =>
      intro l h
      have hne : l ≠ [] := by intro e; rw [e] at h; simp at h
      rw [← List.dropLast_concat_getLast hne]
      exact h1 _ _ (ih _ (by rw [List.length_dropLast, h]; rfl))
  exact key _ l rfl
theorem Rlx.many {f g : Rf → Lb} {M c : Int} (hf : Opt nx wt s R f) (hs : Small wt R f M) (h : Rlx s R f M c g) (b : Bool) (es : List (Rf × Rf)) :
    Hopping nx R es → Rlx s R f M (c + es.length) (rxs wt es (g, b)).1 ∧ (∀ z, g z = f z → (rxs wt es (g, b)).1 z = f z) ∧ ((rxs wt es (g, b)).2 = false → (rxs wt es (g, b)).1 = g) ∧ (b = true → (rxs wt es (g, b)).2 = true) ∧
      ((∀ v, R v → g v = f v) → (rxs wt es (g, b)).2 = b) := by
  induction es using list_snoc with
  | h0 =>
    intro _
    exact ⟨by simpa [rxs] using h, fun z hz => hz, fun _ => rfl, fun hb => hb, fun _ => rfl⟩
  | h1 l e ih =>
    intro hh
    obtain ⟨hl, hu, hv⟩ := hh.front
    obtain ⟨h1, h2, h3, h4, h5⟩ := ih hl
    rw [rxs_snoc]
    obtain ⟨u, v⟩ := e
    obtain ⟨⟨g1, b1⟩, e1⟩ : ∃ st, rxs wt l (g, b) = st := ⟨_, rfl⟩
    rw [e1] at h1 h2 h3 h4 h5 ⊢
    simp only at h1 h2 h3 h4 h5 hu hv
    refine ⟨?_, fun z hz => Rlx.exact hf h1 hu hv b1 (h2 z hz), ?_, ?_, ?_⟩
    · have := Rlx.step hf hs h1 hu hv b1
      have e2 : c + ((l ++ [(u, v)]).length : Int) = c + (l.length : Int) + 1 := by rw [List.length_append, List.length_singleton]; omega
      rw [e2]; exact this
    · intro hb
      rcases rx_ways wt g1 b1 u v with ⟨_, _, e⟩ | ⟨_, e⟩
      · rw [e] at hb; cases hb
      · rw [e] at hb ⊢; exact h3 hb
    · intro hb
      rcases rx_ways wt g1 b1 u v with ⟨_, _, e⟩ | ⟨_, e⟩
      · rw [e]
      · rw [e]; exact h4 hb
    · intro hall
      rcases rx_ways wt g1 b1 u v with ⟨_, h7, e⟩ | ⟨_, e⟩
      · exfalso
        have hRv := hf.closed u hu v hv
        rw [h2 u (hall u hu), h2 v (hall v hRv)] at h7
        exact hf.tri u hu v hv h7
      · rw [e]; exact h5 hall
/-- how many labels are not least -/
def off (refs : List Rf) (f g : Rf → Lb) : Nat := match refs with
  | [] => 0
  | a :: l => (if g a = f a then 0 else 1) + off l f g
theorem off_cons (a : Rf) (l : List Rf) (f g : Rf → Lb) : off (a :: l) f g = (if g a = f a then 0 else 1) + off l f g := rfl
theorem off_le {f g g' : Rf → Lb} : ∀ (refs : List Rf), (∀ z, g z = f z → g' z = f z) → off refs f g' ≤ off refs f g
  | [], _ => Nat.le_refl _
  | a :: l, h => by
    have ih := off_le l h
    rw [off_cons, off_cons]
    by_cases h1 : g a = f a
    · rw [if_pos h1, if_pos (h a h1)]; omega
    · rw [if_neg h1]
      split <;> omega
theorem off_lt {f g g' : Rf → Lb} : ∀ (refs : List Rf), (∀ z, g z = f z → g' z = f z) → ∀ v ∈ refs, g v ≠ f v → g' v = f v → off refs f g' < off refs f g
  | [], _, v, hv, _, _ => by cases hv
  | a :: l, h, v, hv, h3, h4 => by
    rw [off_cons, off_cons]
    rcases List.mem_cons.1 hv with rfl | hv
    · have ih := off_le l h
      rw [if_neg h3, if_pos h4]; omega
    · have ih := off_lt l h v hv h3 h4
      by_cases h1 : g a = f a
      · rw [if_pos h1, if_pos (h a h1)]; omega
      · rw [if_neg h1]
        split <;> omega
theorem off_bd (f g : Rf → Lb) : ∀ (refs : List Rf), off refs f g ≤ refs.length
  | [] => Nat.le_refl _
  | a :: l => by
    have ih := off_bd f g l
    rw [off_cons, List.length_cons]
    split <;> omega
/-- a whole round -/
theorem Rlx.round {f g : Rf → Lb} {M c : Int} (hf : Opt nx wt s R f) (hs : Small wt R f M) (h : Rlx s R f M c g) (refs : List Rf) (hr : ∀ v, v ∈ refs ↔ R v) (es : List (Rf × Rf)) (hes : Hopping nx R es) (hall : ∀ u, R u → ∀ v ∈ nx u, (u, v) ∈ es) :
    ((rxs wt es (g, false)).2 = false → (rxs wt es (g, false)).1 = g ∧ ∀ v, R v → g v = f v) ∧ ((rxs wt es (g, false)).2 = true → off refs f (rxs wt es (g, false)).1 < off refs f g) := by
  obtain ⟨h1, h2, h3, _, h5⟩ := Rlx.many hf hs h false es hes
  -- the first label that is not least, by its hops
  have key : ∀ (n : Nat) (v : Rf), R v → (f v).2 ≤ (n : Int) → g v ≠ f v → ∃ z, R z ∧ g z ≠ f z ∧ (rxs wt es (g, false)).1 z = f z := by
    intro n
    induction n with
    | zero =>
      intro v hv hn hne
      rcases hf.pred v hv with rfl | ⟨u, hu, huv, e⟩
      · rw [h.base, hf.base] at hne; exact absurd rfl hne
      · exfalso
        have h6 := (hf.pos u hu).2
        have h7 : (f v).2 = (f u).2 + 1 := by rw [e]; rfl
        omega
    | succ n ih =>
      intro v hv hn hne
      rcases hf.pred v hv with rfl | ⟨u, hu, huv, e⟩
      · rw [h.base, hf.base] at hne; exact absurd rfl hne
      · have h7 : (f v).2 = (f u).2 + 1 := by rw [e]; rfl
        by_cases hgu : g u = f u
        · refine ⟨v, hv, hne, ?_⟩
          obtain ⟨xs, ys, hab⟩ := List.append_of_mem (hall u hu v huv)
          have hha : Hopping nx R xs := fun x hx => hes x (by rw [hab]; exact List.mem_append_left _ hx)
          have hhb : Hopping nx R ys := fun x hx => hes x (by rw [hab]; exact List.mem_append_right _ (List.mem_cons_of_mem _ hx))
          obtain ⟨k1, k2, _, _, _⟩ := Rlx.many hf hs h false xs hha
          have e3 : rxs wt es (g, false) = rxs wt ys (rx wt (rxs wt xs (g, false)) (u, v)) := by
            rw [hab]; unfold rxs; rw [List.foldl_append]; rfl
          rw [e3]
          obtain ⟨⟨g1, b1⟩, e1⟩ : ∃ st, rxs wt xs (g, false) = st := ⟨_, rfl⟩
          rw [e1] at k1 k2 ⊢
          simp only at k1 k2
          have k3 := Rlx.gain hs k1 hu hv b1 (k2 u hgu) e
          have k4 := Rlx.step hf hs k1 hu huv b1
          obtain ⟨⟨g2, b2⟩, e2⟩ : ∃ st, rx wt (g1, b1) (u, v) = st := ⟨_, rfl⟩
          rw [e2] at k3 k4 ⊢
          exact (Rlx.many hf hs k4 b2 ys hhb).2.1 v k3
        · exact ih u hu (by omega) hgu
  refine ⟨fun hb => ?_, fun hb => ?_⟩
  · have e := h3 hb
    refine ⟨e, fun v hv => ?_⟩
    by_cases hne : g v = f v
    · exact hne
    · obtain ⟨z, hz, h6, h7⟩ := key ((f v).2.toNat) v hv (by omega) hne
      rw [e] at h7
      exact absurd h7 h6
  · by_cases hne : ∀ v, R v → g v = f v
    · rw [h5 hne] at hb; cases hb
    · obtain ⟨v, hv⟩ := Classical.not_forall.1 hne
      obtain ⟨hv1, hv2⟩ := Classical.not_imp.1 hv
      obtain ⟨z, hz, h6, h7⟩ := key ((f v).2.toNat) v hv1 (by omega) hv2
      exact off_lt refs h2 z ((hr z).2 hz) h6 h7
theorem Rlx.start {f : Rf → Lb} {M : Int} (hf : Opt nx wt s R f) (hs : Small wt R f M) : Rlx s R f M 0 (fun v => if v = s then (0, 0) else inf) := by
  refine ⟨by simp, fun v hv => ?_, fun v hv => ?_⟩
  · show ¬ lx (if v = s then _ else inf) (f v)
    split
    · next e => rw [e, hf.base]; exact lx_irrefl _
    · have := hs.f1 v hv
      unfold lx inf
      simp only
      omega
  · show (if v = s then _ else inf) = inf ∨ _
    by_cases e : v = s
    · simp [e]
    · simp [e]
end
end Go.Proofs.YtgnnblkpjankgaaGreatDoor
namespace Go.Proofs.YtgnnblkpjankgaaGreatDoor
set_option linter.unusedVariables false
set_option linter.unusedSimpArgs false

instance decHp : DecidableEq Hp := fun a b =>
  decidable_of_iff (a.aw = b.aw ∧ a.dst = b.dst ∧ a.lo = b.lo ∧ a.hi = b.hi) ⟨fun ⟨h1, h2, h3, h4⟩ => by cases a; cases b; simp only at h1 h2 h3 h4; subst h1 h2 h3 h4; rfl, fun h => by subst h; exact ⟨rfl, rfl, rfl, rfl⟩⟩
section
variable {hp : Rf → List Hp} {wt : Rf → Rf → Int} {s : Rf} {R : Rf → Prop} {f : Rf → Lb}
/-- the hops' ends -/
def ends (hp : Rf → List Hp) (u : Rf) : List Rf := (hp u).map (·.dst)
/-- whether the label of v is one hop behind that of u -/
def fits (wt : Rf → Rf → Int) (f : Rf → Lb) (u v : Rf) : Bool := decide ((f u).2 + 1 = (f v).2) && decide ((f u).1 + wt u v = (f v).1)
/-- the hop by which v is reached: from the first reference whose label fits, the first hop -/
def bkL (hp : Rf → List Hp) (wt : Rf → Rf → Int) (f : Rf → Lb) (v : Rf) : List Rf → Option (Rf × Hp)
  | [] => none
  | u :: l => if fits wt f u v then (match (hp u).find? (fun h => decide (h.dst = v)) with | some h => some (u, h) | none => bkL hp wt f v l) else bkL hp wt f v l
theorem bk_some {v u : Rf} {h : Hp} : ∀ {l : List Rf}, bkL hp wt f v l = some (u, h) → u ∈ l ∧ fits wt f u v = true ∧ h ∈ hp u ∧ h.dst = v
  | [], e => by cases e
  | a :: l, e => by
    have e0 : bkL hp wt f v (a :: l) = if fits wt f a v then (match (hp a).find? (fun h => decide (h.dst = v)) with | some h => some (a, h) | none => bkL hp wt f v l) else bkL hp wt f v l := rfl
    rw [e0] at e
    by_cases hf : fits wt f a v = true
    · rw [if_pos hf] at e
      cases hx : (hp a).find? (fun h => decide (h.dst = v)) with
      | none =>
        rw [hx] at e
        obtain ⟨h1, h2⟩ := bk_some e
        exact ⟨List.mem_cons_of_mem _ h1, h2⟩
      | some x =>
        rw [hx] at e
        simp only [Option.some.injEq, Prod.mk.injEq] at e
        obtain ⟨rfl, rfl⟩ := e
        have h1 := List.find?_some hx
        exact ⟨List.mem_cons_self .., hf, List.mem_of_find?_eq_some hx, by simpa using h1⟩
    · rw [if_neg hf] at e
      obtain ⟨h1, h2⟩ := bk_some e
      exact ⟨List.mem_cons_of_mem _ h1, h2⟩
theorem bk_is {v u : Rf} (hfit : fits wt f u v = true) (hv : v ∈ ends hp u) : ∀ {l : List Rf}, u ∈ l → ∃ x, bkL hp wt f v l = some x
  | [], e => by cases e
  | a :: l, e => by
    have e0 : bkL hp wt f v (a :: l) = if fits wt f a v then (match (hp a).find? (fun h => decide (h.dst = v)) with | some h => some (a, h) | none => bkL hp wt f v l) else bkL hp wt f v l := rfl
    rw [e0]
    rcases List.mem_cons.1 e with rfl | hl
    · rw [if_pos hfit]
      unfold ends at hv
      rw [List.mem_map] at hv
      obtain ⟨h, hh, hd⟩ := hv
      cases hx : (hp u).find? (fun h => decide (h.dst = v)) with
      | none =>
        rw [List.find?_eq_none] at hx
        exact absurd (decide_eq_true hd) (by simpa using hx h hh)
      | some x => exact ⟨_, rfl⟩
    · obtain ⟨x, hx⟩ := bk_is hfit hv hl
      rw [hx]
      split
      · split <;> exact ⟨_, rfl⟩
      · exact ⟨_, rfl⟩
/-- one reference more has been looked at -/
theorem bk_skip {v u : Rf} {l r : List Rf} (h : fits wt f u v = false ∨ (hp u).find? (fun h => decide (h.dst = v)) = none) : bkL hp wt f v (u :: r) = bkL hp wt f v r := by
  have e0 : bkL hp wt f v (u :: r) = if fits wt f u v then (match (hp u).find? (fun h => decide (h.dst = v)) with | some h => some (u, h) | none => bkL hp wt f v r) else bkL hp wt f v r := rfl
  rw [e0]
  rcases h with h | h
  · rw [h]; rfl
  · rw [h]
    split <;> rfl
theorem bk_hit {v u : Rf} {r : List Rf} {x : Hp} (h : fits wt f u v = true) (hx : (hp u).find? (fun h => decide (h.dst = v)) = some x) : bkL hp wt f v (u :: r) = some (u, x) := by
  have e0 : bkL hp wt f v (u :: r) = if fits wt f u v then (match (hp u).find? (fun h => decide (h.dst = v)) with | some h => some (u, h) | none => bkL hp wt f v r) else bkL hp wt f v r := rfl
  rw [e0, if_pos h, hx]
/-- the way to v, n hops back -/
def wayN (hp : Rf → List Hp) (wt : Rf → Rf → Int) (f : Rf → Lb) (refs : List Rf) : Nat → Rf → List Hp
  | 0, _ => []
  | n + 1, v => match bkL hp wt f v refs with | some (u, h) => wayN hp wt f refs n u ++ [h] | none => []
def wayTo (hp : Rf → List Hp) (wt : Rf → Rf → Int) (f : Rf → Lb) (refs : List Rf) (v : Rf) : List Hp := wayN hp wt f refs (f v).2.toNat v
/-- a walk over hops -/
def walkOk (hp : Rf → List Hp) : Rf → List Hp → Bool
  | _, [] => true
  | a, h :: l => decide (h ∈ hp a) && walkOk hp h.dst l
def endW : Rf → List Hp → Rf
  | a, [] => a
  | _, h :: l => endW h.dst l
def sumW (wt : Rf → Rf → Int) : Rf → List Hp → Int
  | _, [] => 0
  | a, h :: l => wt a h.dst + sumW wt h.dst l
theorem walk_snoc (a : Rf) (l : List Hp) (h : Hp) : walkOk hp a (l ++ [h]) = (walkOk hp a l && decide (h ∈ hp (endW a l))) ∧ endW a (l ++ [h]) = h.dst ∧ sumW wt a (l ++ [h]) = sumW wt a l + wt (endW a l) h.dst := by
  induction l generalizing a with
  | nil => exact ⟨Bool.and_comm _ _, rfl, Int.add_comm _ _⟩
  | cons x l ih =>
    obtain ⟨h1, h2, h3⟩ := ih x.dst
    refine ⟨?_, ?_, ?_⟩
    · show (decide (x ∈ hp a) && walkOk hp x.dst (l ++ [h])) = _
      rw [h1, ← Bool.and_assoc]; rfl
    · exact h2
    · show wt a x.dst + sumW wt x.dst (l ++ [h]) = _
      rw [h3, ← Int.add_assoc]; rfl
/-- the steps back over least labels -/
theorem bk_opt {refs : List Rf} (hr : ∀ v, v ∈ refs ↔ R v) (hf : Opt (ends hp) wt s R f) {v : Rf} (hv : R v) (h0 : 0 < (f v).2) :
    ∃ u h, bkL hp wt f v refs = some (u, h) ∧ R u ∧ h ∈ hp u ∧ h.dst = v ∧ (f v).2 = (f u).2 + 1 ∧ (f v).1 = (f u).1 + wt u v := by
  rcases hf.pred v hv with rfl | ⟨u, hu, huv, e⟩
  · rw [hf.base] at h0; simp at h0
  · have e1 : (f v).1 = (f u).1 + wt u v := by rw [e]; rfl
    have e2 : (f v).2 = (f u).2 + 1 := by rw [e]; rfl
    have hfit : fits wt f u v = true := by
      unfold fits
      rw [decide_eq_true e2.symm, decide_eq_true e1.symm]; rfl
    obtain ⟨⟨u', h⟩, hx⟩ := bk_is (l := refs) hfit huv ((hr u).2 hu)
    obtain ⟨h1, h2, h3, h4⟩ := bk_some hx
    unfold fits at h2
    rw [Bool.and_eq_true, decide_eq_true_iff, decide_eq_true_iff] at h2
    exact ⟨u', h, hx, (hr u').1 h1, h3, h4, h2.1.symm, h2.2.symm⟩
theorem wayN_ok {refs : List Rf} (hr : ∀ v, v ∈ refs ↔ R v) (hf : Opt (ends hp) wt s R f) : ∀ (n : Nat) (v : Rf), R v → (f v).2 = (n : Int) →
    walkOk hp s (wayN hp wt f refs n v) = true ∧ endW s (wayN hp wt f refs n v) = v ∧ sumW wt s (wayN hp wt f refs n v) = (f v).1 ∧ (wayN hp wt f refs n v).length = n
  | 0, v, hv, hn => by
    rcases hf.pred v hv with rfl | ⟨u, hu, huv, e⟩
    · exact ⟨rfl, rfl, by rw [hf.base]; rfl, rfl⟩
    · exfalso
      have h1 := (hf.pos u hu).2
      have h2 : (f v).2 = (f u).2 + 1 := by rw [e]; rfl
      omega
  | n + 1, v, hv, hn => by
    obtain ⟨u, h, hx, hu, hh, hd, e2, e1⟩ := bk_opt hr hf hv (by omega)
    obtain ⟨i1, i2, i3, i4⟩ := wayN_ok hr hf n u hu (by omega)
    have e0 : wayN hp wt f refs (n + 1) v = wayN hp wt f refs n u ++ [h] := by
      show (match bkL hp wt f v refs with | some (u, h) => wayN hp wt f refs n u ++ [h] | none => []) = _
      rw [hx]
    obtain ⟨k1, k2, k3⟩ := walk_snoc (hp := hp) (wt := wt) s (wayN hp wt f refs n u) h
    rw [e0, k1, k2, k3, i1, i2, i3, hd, List.length_append, i4]
    exact ⟨by simp [hh], rfl, e1.symm, rfl⟩
theorem wayTo_ok {refs : List Rf} (hr : ∀ v, v ∈ refs ↔ R v) (hf : Opt (ends hp) wt s R f) {v : Rf} (hv : R v) :
    walkOk hp s (wayTo hp wt f refs v) = true ∧ endW s (wayTo hp wt f refs v) = v ∧ sumW wt s (wayTo hp wt f refs v) = (f v).1 ∧ ((wayTo hp wt f refs v).length : Int) = (f v).2 := by
  have h0 := (hf.pos v hv).2
  obtain ⟨h1, h2, h3, h4⟩ := wayN_ok hr hf (f v).2.toNat v hv (by omega)
  exact ⟨h1, h2, h3, by unfold wayTo; rw [h4]; omega⟩
/-- no walk is shorter than the label of its end -/
theorem walk_least (hf : Opt (ends hp) wt s R f) : ∀ (l : List Hp) (a : Rf), R a → walkOk hp a l = true → R (endW a l) ∧ (f (endW a l)).1 ≤ (f a).1 + sumW wt a l
  | [], a, ha, _ => ⟨ha, by simp [sumW, endW]⟩
  | h :: l, a, ha, hw => by
    have e : walkOk hp a (h :: l) = (decide (h ∈ hp a) && walkOk hp h.dst l) := rfl
    rw [e, Bool.and_eq_true, decide_eq_true_iff] at hw
    have hm : h.dst ∈ ends hp a := List.mem_map.2 ⟨h, hw.1, rfl⟩
    have hR := hf.closed a ha _ hm
    obtain ⟨h1, h2⟩ := walk_least hf l h.dst hR hw.2
    have h3 := hf.tri a ha _ hm
    unfold lx ad at h3
    simp only at h3
    refine ⟨h1, ?_⟩
    have e1 : endW a (h :: l) = endW h.dst l := rfl
    have e2 : sumW wt a (h :: l) = wt a h.dst + sumW wt h.dst l := rfl
    rw [e1, e2]
    omega
end

/-! ### the verdict -/
/-- a way: hops, a length, labels -/
structure Wy where
  hops : List Hp
  len : Int
  labs : List (Rf × Lb)
def satA (a b : Int) : Int := if a + b < -9223372036854775808 then -9223372036854775808 else if 9223372036854775807 < a + b then 9223372036854775807 else a + b
/-- strictly ascending -/
def ascB : List (Rf × Lb) → Bool
  | a :: b :: l => decide (a.1 < b.1) && ascB (b :: l)
  | _ => true
def lkL (l : List (Rf × Lb)) (r : Rf) : Option Int := (l.find? fun x => decide (x.1 = r)).map (·.2.1)
/-- whether a hop from a label is in order -/
def hopOk (wt : Rf → Rf → Int) (l : List (Rf × Lb)) (x : Rf × Lb) (h : Hp) : Bool :=
  match lkL l h.dst with | none => false | some n => decide (n ≤ satA x.2.1 (wt x.1 h.dst))
def labOk (hp : Rf → List Hp) (wt : Rf → Rf → Int) (l : List (Rf × Lb)) (x : Rf × Lb) : Bool := (hp x.1).all (hopOk wt l x)
def ckWay (hp : Rf → List Hp) (wt : Rf → Rf → Int) (a b : Rf) (y : Wy) : Int :=
  if ascB y.labs = false then 4
  else if lkL y.labs a ≠ some 0 then 4
  else if y.labs.all (labOk hp wt y.labs) = false then 9
  else if walkOk hp a y.hops = false then 6
  else if endW a y.hops ≠ b then 6
  else if y.len ≠ sumW wt a y.hops then 1
  else if lkL y.labs b ≠ some y.len then 11
  else 0
/-- the labels of references, as a list -/
def labsOf (refs : List Rf) (f : Rf → Lb) : List (Rf × Lb) := refs.map fun r => (r, f r)
theorem lk_labs {f : Rf → Lb} {r : Rf} : ∀ {refs : List Rf}, r ∈ refs → lkL (labsOf refs f) r = some (f r).1
  | [], h => by cases h
  | a :: l, h => by
    have e : labsOf (a :: l) f = (a, f a) :: labsOf l f := rfl
    unfold lkL
    rw [e, List.find?_cons]
    by_cases ha : a = r
    · subst ha
      simp
    · simp only [decide_eq_false ha]
      rcases List.mem_cons.1 h with h1 | h1
      · exact absurd h1.symm ha
      · exact lk_labs h1
theorem lk_none {l : List (Rf × Lb)} {r : Rf} (h : ∀ x ∈ l, x.1 ≠ r) : lkL l r = none := by
  unfold lkL
  rw [List.find?_eq_none.2 (fun x hx => by simpa using h x hx)]; rfl
theorem asc_labs {f : Rf → Lb} : ∀ {refs : List Rf}, (∀ i, (h : i + 1 < refs.length) → refs[i] < refs[i + 1]) → ascB (labsOf refs f) = true
  | [], _ => rfl
  | [a], _ => rfl
  | a :: b :: l, h => by
    have h0 := h 0 (by simp)
    have e : ascB (labsOf (a :: b :: l) f) = (decide (a < b) && ascB (labsOf (b :: l) f)) := rfl
    rw [e, asc_labs (refs := b :: l) (fun i hi => by
      have := h (i + 1) (by simpa using hi)
      simpa using this), Bool.and_true, decide_eq_true_iff]
    simpa using h0
/-- a shortest way is accepted, and with another length it is not -/
theorem ck_short {hp : Rf → List Hp} {wt : Rf → Rf → Int} {s : Rf} {R : Rf → Prop} {f : Rf → Lb} {refs : List Rf} (hr : ∀ v, v ∈ refs ↔ R v) (hasc : ∀ i, (h : i + 1 < refs.length) → refs[i] < refs[i + 1]) (hf : Opt (ends hp) wt s R f)
    (hbd : ∀ v, R v → (f v).1 < 4611686018427387904) (hw : ∀ u v, 0 ≤ wt u v ∧ wt u v ≤ 64800000) {v : Rf} (hv : R v) (n : Int) :
    ckWay hp wt s v ⟨wayTo hp wt f refs v, n, labsOf refs f⟩ = if n = (f v).1 then 0 else 1 := by
  obtain ⟨h1, h2, h3, _⟩ := wayTo_ok hr hf hv
  have htri : (labsOf refs f).all (labOk hp wt (labsOf refs f)) = true := by
    rw [List.all_eq_true]
    intro x hx
    unfold labsOf at hx
    rw [List.mem_map] at hx
    obtain ⟨u, hu, rfl⟩ := hx
    unfold labOk
    rw [List.all_eq_true]
    intro h hh
    have hu2 := (hr u).1 hu
    have hm : h.dst ∈ ends hp u := List.mem_map.2 ⟨h, hh, rfl⟩
    have hR := hf.closed u hu2 _ hm
    unfold hopOk
    rw [lk_labs ((hr _).2 hR)]
    simp only
    rw [decide_eq_true_iff]
    have h3 := hf.tri u hu2 _ hm
    unfold lx ad at h3
    simp only at h3
    have h4 := hbd u hu2
    have h5 := (hf.pos u hu2).1
    have h6 := hw u h.dst
    unfold satA
    rw [if_neg (by omega), if_neg (by omega)]
    omega
  unfold ckWay
  simp only
  rw [asc_labs hasc, lk_labs ((hr s).2 hf.rs), hf.base, htri, h1, h2, h3, lk_labs ((hr v).2 hv)]
  by_cases hn : n = (f v).1
  · simp [hn]
  · simp [hn]
end Go.Proofs.YtgnnblkpjankgaaGreatDoor
