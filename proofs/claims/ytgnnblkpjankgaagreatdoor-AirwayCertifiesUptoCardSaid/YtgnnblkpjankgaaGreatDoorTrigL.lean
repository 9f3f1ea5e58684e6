/-
  Plain laws: the series of the sine and of the cosine from 0 to 45 degrees ascend and descend; the greatest place up to which a test holds.
-/
import Derived.Test.YtgnnblkpjankgaaGreatDoorBase
namespace Go.Proofs.YtgnnblkpjankgaaGreatDoor
set_option linter.unusedVariables false
set_option linter.unusedSimpArgs false

def mulT (x y : Nat) : Nat := (x * y + 1073741824) / 2147483648
def divT (x n : Nat) : Nat := (x + n / 2) / n
def tArg (a : Nat) : Nat := (a * 6746518852 + 32400000) / 64800000
/-- the scale of the series -/
def oneT : Nat := 2147483648
/-- the series: u: the square; the divisors; what is reached -/
def serR (u : Nat) (ns : List Nat) (r : Nat) : Nat := ns.foldl (fun r n => oneT - divT (mulT u r) n) r
theorem serR_cons (u n : Nat) (ns : List Nat) (r : Nat) : serR u (n :: ns) r = serR u ns (oneT - divT (mulT u r) n) := by unfold serR; rw [List.foldl_cons]
theorem serR_nil (u r : Nat) : serR u [] r = r := by unfold serR; rw [List.foldl_nil]
def uArg (a : Nat) : Nat := mulT (tArg a) (tArg a)
def sinT (a : Nat) : Nat := (mulT (tArg a) (serR (uArg a) [110, 72, 42, 20, 6] oneT) + 1) / 2
def cosT (a : Nat) : Nat := (serR (uArg a) [90, 56, 30, 12, 2] oneT + 1) / 2
theorem mulT_le {x y x' y' : Nat} (h : x * y ≤ x' * y') : mulT x y ≤ mulT x' y' := by unfold mulT; omega
theorem mulT_add {x y x' y' d : Nat} (h : x' * y' ≤ x * y + d * 2147483648) : mulT x' y' ≤ mulT x y + d := by unfold mulT; omega
theorem divT_le {x x' n : Nat} (h : x ≤ x') : divT x n ≤ divT x' n := by unfold divT; exact Nat.div_le_div_right (by omega)
theorem divT_add {x x' n d : Nat} (hn : 0 < n) (h : x' ≤ x + d * n) : divT x' n ≤ divT x n + d := by
  unfold divT
  rw [← Nat.add_mul_div_right _ _ hn]
  exact Nat.div_le_div_right (by omega)
theorem divT_half {x n : Nat} (hn : 2 ≤ n) : 2 * divT x n ≤ x + 2 := by
  unfold divT
  have h1 : (x + n / 2) / n ≤ (x + n / 2) / n := Nat.le_refl _
  have h2 : (x + n / 2) / n * n ≤ x + n / 2 := Nat.div_mul_le_self _ _
  rcases Nat.eq_zero_or_pos ((x + n / 2) / n) with h0 | h0
  · omega
  · obtain ⟨q, hq⟩ : ∃ q, (x + n / 2) / n = q := ⟨_, rfl⟩
    rw [hq] at h2 h0 ⊢
    obtain ⟨p, rfl⟩ : ∃ p, q = p + 1 := ⟨q - 1, by omega⟩
    rw [Nat.add_mul, Nat.one_mul] at h2
    have h3 : p * 2 ≤ p * n := Nat.mul_le_mul_left p hn
    omega
theorem mulT_small {u r : Nat} (h : r ≤ 2147483648) : mulT u r ≤ u := by
  have h1 : u * r ≤ u * 2147483648 := Nat.mul_le_mul_left u h
  unfold mulT
  omega
/-- where two series stand: r at u, r' at u + d -/
structure NearT (u d r r' : Nat) : Prop where
  le : r' ≤ r
  near : r ≤ r' + d
  top : r ≤ 2147483648
  big : 1484000000 ≤ r'
theorem near_mul {u d r r' : Nat} (h : NearT u d r r') (hu : u + d ≤ 1325400000) : u * r ≤ (u + d) * r' ∧ (u + d) * r' ≤ u * r + d * 2147483648 := by
  obtain ⟨h1, h2, h3, h4⟩ := h
  obtain ⟨e, rfl⟩ : ∃ e, r = r' + e := ⟨r - r', by omega⟩
  rw [Nat.mul_add, Nat.add_mul]
  have h5 : u * e ≤ u * d := Nat.mul_le_mul_left u (by omega)
  have h6 : d * u ≤ d * r' := Nat.mul_le_mul_left d (by omega)
  have h7 : d * r' ≤ d * 2147483648 := Nat.mul_le_mul_left d (by omega)
  rw [Nat.mul_comm d u] at h6
  omega
theorem near_step {u d r r' n : Nat} (h : NearT u d r r') (hu : u + d ≤ 1325400000) (hn : 2 ≤ n) : NearT u d (oneT - divT (mulT u r) n) (oneT - divT (mulT (u + d) r') n) := by
  have hm := near_mul h hu
  have h1 := mulT_le hm.1
  have h2 := mulT_add hm.2
  have h3 := divT_le (n := n) h1
  have h4 : divT (mulT (u + d) r') n ≤ divT (mulT u r) n + d := divT_add (by omega) (Nat.le_trans h2 (Nat.add_le_add_left (Nat.le_mul_of_pos_right d (by omega)) _))
  have h5 := divT_half (x := mulT (u + d) r') hn
  have h6 := mulT_small (u := u + d) (r := r') (by have := h.le; have := h.top; omega)
  have h7 : oneT = 2147483648 := rfl
  exact ⟨by omega, by omega, by omega, by omega⟩
theorem near_half {u d r r' n s : Nat} (h : NearT u d r r') (hu : u + d ≤ 1325400000) (hn : 2 ≤ n) (hd : d ≤ 2 * s) : oneT - divT (mulT u r) n ≤ oneT - divT (mulT (u + d) r') n + s := by
  have hm := near_mul h hu
  have h2 := mulT_add hm.2
  have h4 : divT (mulT (u + d) r') n ≤ divT (mulT u r) n + s := divT_add (by omega) (Nat.le_trans h2 (Nat.add_le_add_left (Nat.le_trans hd (by rw [Nat.mul_comm]; exact Nat.mul_le_mul_left s hn)) _))
  omega
theorem near_start (u d : Nat) : NearT u d oneT oneT := by
  have : oneT = 2147483648 := rfl
  exact ⟨by omega, by omega, by omega, by omega⟩
theorem near_all {u d : Nat} (hu : u + d ≤ 1325400000) (ns : List Nat) : ∀ (r r' : Nat), (∀ n ∈ ns, 2 ≤ n) → NearT u d r r' → NearT u d (serR u ns r) (serR (u + d) ns r') := by
  induction ns with
  | nil => intro r r' _ h; rw [serR_nil, serR_nil]; exact h
  | cons n ns ih =>
    intro r r' hn h
    rw [serR_cons, serR_cons]
    exact ih _ _ (fun x hx => hn x (List.mem_cons_of_mem _ hx)) (near_step h hu (hn n (by simp)))
theorem serR_snoc (u : Nat) (ns : List Nat) : ∀ (r n : Nat), serR u (ns ++ [n]) r = oneT - divT (mulT u (serR u ns r)) n := by
  induction ns with
  | nil => intro r n; rw [List.nil_append, serR_cons, serR_nil, serR_nil]
  | cons m ns ih => intro r n; rw [List.cons_append, serR_cons, serR_cons]; exact ih _ n
theorem tArg_mono {a b : Nat} (h : a ≤ b) : tArg a ≤ tArg b := by unfold tArg; omega
theorem tArg_top {a : Nat} (h : a ≤ 16200000) : tArg a ≤ 1686629714 := by unfold tArg; omega
theorem uArg_mono {a b : Nat} (h : a ≤ b) : uArg a ≤ uArg b := mulT_le (Nat.mul_le_mul (tArg_mono h) (tArg_mono h))
theorem uArg_top {a : Nat} (h : a ≤ 16200000) : uArg a ≤ 1325400000 := by
  have h1 := tArg_top h
  have h2 : tArg a * tArg a ≤ 1686629714 * 1686629714 := Nat.mul_le_mul h1 h1
  unfold uArg mulT
  omega
theorem cosT_anti {a b : Nat} (h : a ≤ b) (hb : b ≤ 16200000) : cosT b ≤ cosT a := by
  obtain ⟨d, hd⟩ : ∃ d, uArg b = uArg a + d := ⟨uArg b - uArg a, by have := uArg_mono h; omega⟩
  have hu := uArg_top hb
  rw [hd] at hu
  have hn := near_all hu [90, 56, 30, 12, 2] _ _ (by decide) (near_start _ _)
  unfold cosT
  rw [hd]
  have := hn.le
  omega
theorem sinT_mono {a b : Nat} (h : a ≤ b) (hb : b ≤ 16200000) : sinT a ≤ sinT b := by
  obtain ⟨d, hd⟩ : ∃ d, uArg b = uArg a + d := ⟨uArg b - uArg a, by have := uArg_mono h; omega⟩
  obtain ⟨s, hs⟩ : ∃ s, tArg b = tArg a + s := ⟨tArg b - tArg a, by have := tArg_mono h; omega⟩
  have hu := uArg_top hb
  have ht := tArg_top hb
  rw [hd] at hu
  have hd2 : d ≤ 2 * s := by
    have h1 : tArg b * tArg b ≤ tArg a * tArg a + 2 * s * 2147483648 := by
      rw [hs]
      rw [hs] at ht
      rw [Nat.mul_add, Nat.add_mul, Nat.add_mul]
      have h2 : s * tArg a ≤ s * 1686629714 := Nat.mul_le_mul_left s (by omega)
      have h3 : (tArg a + s) * s ≤ 1686629714 * s := Nat.mul_le_mul_right s ht
      rw [Nat.add_mul] at h3
      omega
    have h2 := mulT_add h1
    unfold uArg at hd
    omega
  have hn := near_all hu [110, 72, 42, 20] _ _ (by decide) (near_start _ _)
  have hn5 := near_step hn hu (n := 6) (by decide)
  have hn6 := near_half hn hu (n := 6) (by decide) hd2
  have e1 : ∀ u, serR u [110, 72, 42, 20, 6] oneT = oneT - divT (mulT u (serR u [110, 72, 42, 20] oneT)) 6 := fun u => serR_snoc u [110, 72, 42, 20] oneT 6
  unfold sinT
  rw [e1, e1, hd]
  obtain ⟨R, hR⟩ : ∃ R, oneT - divT (mulT (uArg a) (serR (uArg a) [110, 72, 42, 20] oneT)) 6 = R := ⟨_, rfl⟩
  have hbig : 1900000000 ≤ oneT - divT (mulT (uArg a + d) (serR (uArg a + d) [110, 72, 42, 20] oneT)) 6 := by
    have h6 := mulT_small (u := uArg a + d) (r := serR (uArg a + d) [110, 72, 42, 20] oneT) (by have := hn.le; have := hn.top; omega)
    have h7 : oneT = 2147483648 := rfl
    unfold divT
    omega
  obtain ⟨R', hR'⟩ : ∃ R', oneT - divT (mulT (uArg a + d) (serR (uArg a + d) [110, 72, 42, 20] oneT)) 6 = R' := ⟨_, rfl⟩
  rw [hR] at hn5 hn6 ⊢
  rw [hR'] at hn5 hn6 hbig ⊢
  have hle := hn5.le
  have hm : tArg a * R ≤ tArg b * R' := by
    rw [hs] at ht ⊢
    obtain ⟨e, rfl⟩ : ∃ e, R = R' + e := ⟨R - R', by omega⟩
    rw [Nat.mul_add, Nat.add_mul]
    have h5 : tArg a * e ≤ tArg a * s := Nat.mul_le_mul_left _ (by omega)
    have h6 : s * tArg a ≤ s * R' := Nat.mul_le_mul_left s (by omega)
    rw [Nat.mul_comm s (tArg a)] at h6
    omega
  have := mulT_le hm
  omega
theorem serR_top (ns : List Nat) : ∀ (r u : Nat), r ≤ 2147483648 → serR u ns r ≤ 2147483648 := by
  induction ns with
  | nil => intro r u h; rw [serR_nil]; exact h
  | cons n ns ih => intro r u h; rw [serR_cons]; exact ih _ _ (Nat.sub_le _ _)
theorem cosT_top (a : Nat) : cosT a ≤ 1073741824 := by
  have h := serR_top [90, 56, 30, 12, 2] oneT (uArg a) (Nat.le_refl _)
  unfold cosT
  omega
theorem sinT_top {a : Nat} (h : a ≤ 16200000) : sinT a ≤ 900000000 := by
  have h1 := mulT_small (u := tArg a) (r := serR (uArg a) [110, 72, 42, 20, 6] oneT) (serR_top _ _ _ (Nat.le_refl _))
  have h2 := tArg_top h
  unfold sinT
  omega
/-- the last place up to which a test that holds no more, once it has failed, holds -/
theorem last_place (p : Nat → Bool) : ∀ n : Nat, (∀ i j, 1 ≤ i → i ≤ j → j ≤ n → p j = true → p i = true) → ∃ g, g ≤ n ∧ ∀ c, 1 ≤ c → c ≤ n → (p c = true ↔ c ≤ g)
  | 0, _ => ⟨0, Nat.le_refl _, fun c h1 h2 => by omega⟩
  | n + 1, h => by
    cases hp : p (n + 1) with
    | true => exact ⟨n + 1, Nat.le_refl _, fun c h1 h2 => ⟨fun _ => h2, fun _ => h c (n + 1) h1 h2 (Nat.le_refl _) hp⟩⟩
    | false =>
      obtain ⟨g, hg, hc⟩ := last_place p n (fun i j h1 h2 h3 => h i j h1 h2 (by omega))
      refine ⟨g, by omega, fun c h1 h2 => ?_⟩
      rcases Nat.lt_or_ge n c with h3 | h3
      · have : c = n + 1 := by omega
        subst this
        rw [hp]
        constructor
        · intro h; cases h
        · intro h; omega
      · exact hc c h1 h3
end Go.Proofs.YtgnnblkpjankgaaGreatDoor
