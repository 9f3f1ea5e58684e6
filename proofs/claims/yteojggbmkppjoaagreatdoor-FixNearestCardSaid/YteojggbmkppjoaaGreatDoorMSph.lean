/-
  Several texts as one.
  Plain laws: the series of the sine and of the cosine from 0 to 45 degrees ascend and descend; the greatest place up to which a test holds.
  Plain laws: sines and cosines of any angle, unit vectors, and how large their products are.
  Contracts: angles from 0 to the circle, the series, sines and cosines; both sides.
  Contracts: absolute values, ranges, the search for the last place, the angle of two sides; both sides.
  Contract: Atan2 of the reference.
  Contracts: rounding, scalar products, unit vectors of positions; both sides.
  Contracts: the unit vector of a valid position; both sides.
  Contracts: square roots rounded down; both sides.
  Contracts: the distance of two positions; both sides.
  Contract: the reference's distance of two positions.
-/
import Derived.Test.YteojggbmkppjoaaGreatDoorBase
import Derived.IntWalk
import Derived.StillTailTactics
import Derived.Test.YteojggbmkppjoaaGreatDoorShelf2
import Derived.Deep.LoopGhost
import Derived.Lib.ItoaNum
import Derived.Deep.RegionHeld3
import Derived.Deep.CutBlock
namespace Go.Proofs.YteojggbmkppjoaaGreatDoor
set_option linter.unusedVariables false
set_option linter.unusedSimpArgs false

def mulT (x y : Nat) : Nat := (x * y + 1073741824) / 2147483648
def divT (x n : Nat) : Nat := (x + n / 2) / n
def tArg (a : Nat) : Nat := (a * 6746518852 + 32400000) / 64800000
/-- the scale of the series -/
def oneT : Nat := 2147483648
/-- the series: u: the square; the divisors; what is reached -/
def serR (u : Nat) (ns : List Nat) (r : Nat) : Nat := ns.foldl (fun r n => oneT - divT (mulT u r) n) r
theorem serR_cons (u n : Nat) (ns : List Nat) (r : Nat) : serR u (n :: ns) r = serR u ns (oneT - divT (mulT u r) n) := by unfold serR; rw [List.foldl_cons]
theorem serR_nil (u r : Nat) : serR u [] r = r := by unfold serR; rw [List.foldl_nil]
def uArg (a : Nat) : Nat := mulT (tArg a) (tArg a)
def sinT (a : Nat) : Nat := (mulT (tArg a) (serR (uArg a) [110, 72, 42, 20, 6] oneT) + 1) / 2
def cosT (a : Nat) : Nat := (serR (uArg a) [90, 56, 30, 12, 2] oneT + 1) / 2
theorem mulT_le {x y x' y' : Nat} (h : x * y ≤ x' * y') : mulT x y ≤ mulT x' y' := by unfold mulT; omega
theorem mulT_add {x y x' y' d : Nat} (h : x' * y' ≤ x * y + d * 2147483648) : mulT x' y' ≤ mulT x y + d := by unfold mulT; omega
theorem divT_le {x x' n : Nat} (h : x ≤ x') : divT x n ≤ divT x' n := by unfold divT; exact Nat.div_le_div_right (by omega)
theorem divT_add {x x' n d : Nat} (hn : 0 < n) (h : x' ≤ x + d * n) : divT x' n ≤ divT x n + d := by
  unfold divT
  rw [← Nat.add_mul_div_right _ _ hn]
  exact Nat.div_le_div_right (by omega)
theorem divT_half {x n : Nat} (hn : 2 ≤ n) : 2 * divT x n ≤ x + 2 := by
  unfold divT
  have h1 : (x + n / 2) / n ≤ (x + n / 2) / n := Nat.le_refl _
  have h2 : (x + n / 2) / n * n ≤ x + n / 2 := Nat.div_mul_le_self _ _
  rcases Nat.eq_zero_or_pos ((x + n / 2) / n) with h0 | h0
  · omega
  · obtain ⟨q, hq⟩ : ∃ q, (x + n / 2) / n = q := ⟨_, rfl⟩
    rw [hq] at h2 h0 ⊢
    obtain ⟨p, rfl⟩ : ∃ p, q = p + 1 := ⟨q - 1, by omega⟩
    rw [Nat.add_mul, Nat.one_mul] at h2
    have h3 : p * 2 ≤ p * n := Nat.mul_le_mul_left p hn
    omega
theorem mulT_small {u r : Nat} (h : r ≤ 2147483648) : mulT u r ≤ u := by
  have h1 : u * r ≤ u * 2147483648 := Nat.mul_le_mul_left u h
  unfold mulT
  omega
/-- where two series stand: r at u, r' at u + d -/
structure NearT (u d r r' : Nat) : Prop where
  le : r' ≤ r
  near : r ≤ r' + d
  top : r ≤ 2147483648
  big : 1484000000 ≤ r'
theorem near_mul {u d r r' : Nat} (h : NearT u d r r') (hu : u + d ≤ 1325400000) : u * r ≤ (u + d) * r' ∧ (u + d) * r' ≤ u * r + d * 2147483648 := by
  obtain ⟨h1, h2, h3, h4⟩ := h
  obtain ⟨e, rfl⟩ : ∃ e, r = r' + e := ⟨r - r', by omega⟩
  rw [Nat.mul_add, Nat.add_mul]
  have h5 : u * e ≤ u * d := Nat.mul_le_mul_left u (by omega)
  have h6 : d * u ≤ d * r' := Nat.mul_le_mul_left d (by omega)
  have h7 : d * r' ≤ d * 2147483648 := Nat.mul_le_mul_left d (by omega)
  rw [Nat.mul_comm d u] at h6
  omega
theorem near_step {u d r r' n : Nat} (h : NearT u d r r') (hu : u + d ≤ 1325400000) (hn : 2 ≤ n) : NearT u d (oneT - divT (mulT u r) n) (oneT - divT (mulT (u + d) r') n) := by
  have hm := near_mul h hu
  have h1 := mulT_le hm.1
  have h2 := mulT_add hm.2
  have h3 := divT_le (n := n) h1
  have h4 : divT (mulT (u + d) r') n ≤ divT (mulT u r) n + d := divT_add (by omega) (Nat.le_trans h2 (Nat.add_le_add_left (Nat.le_mul_of_pos_right d (by omega)) _))
  have h5 := divT_half (x := mulT (u + d) r') hn
  have h6 := mulT_small (u := u + d) (r := r') (by have := h.le; have := h.top; omega)
  have h7 : oneT = 2147483648 := rfl
  exact ⟨by omega, by omega, by omega, by omega⟩
theorem near_half {u d r r' n s : Nat} (h : NearT u d r r') (hu : u + d ≤ 1325400000) (hn : 2 ≤ n) (hd : d ≤ 2 * s) : oneT - divT (mulT u r) n ≤ oneT - divT (mulT (u + d) r') n + s := by
  have hm := near_mul h hu
  have h2 := mulT_add hm.2
  have h4 : divT (mulT (u + d) r') n ≤ divT (mulT u r) n + s := divT_add (by omega) (Nat.le_trans h2 (Nat.add_le_add_left (Nat.le_trans hd (by rw [Nat.mul_comm]; exact Nat.mul_le_mul_left s hn)) _))
  omega
theorem near_start (u d : Nat) : NearT u d oneT oneT := by
  have : oneT = 2147483648 := rfl
  exact ⟨by omega, by omega, by omega, by omega⟩
theorem near_all {u d : Nat} (hu : u + d ≤ 1325400000) (ns : List Nat) : ∀ (r r' : Nat), (∀ n ∈ ns, 2 ≤ n) → NearT u d r r' → NearT u d (serR u ns r) (serR (u + d) ns r') := by
  induction ns with
  | nil => intro r r' _ h; rw [serR_nil, serR_nil]; exact h
  | cons n ns ih =>
    intro r r' hn h
    rw [serR_cons, serR_cons]
    exact ih _ _ (fun x hx => hn x (List.mem_cons_of_mem _ hx)) (near_step h hu (hn n (by simp)))
theorem serR_snoc (u : Nat) (ns : List Nat) : ∀ (r n : Nat), serR u (ns ++ [n]) r = oneT - divT (mulT u (serR u ns r)) n := by
  induction ns with
  | nil => intro r n; rw [List.nil_append, serR_cons, serR_nil, serR_nil]
  | cons m ns ih => intro r n; rw [List.cons_append, serR_cons, serR_cons]; exact ih _ n
theorem tArg_mono {a b : Nat} (h : a ≤ b) : tArg a ≤ tArg b := by unfold tArg; omega
theorem tArg_top {a : Nat} (h : a ≤ 16200000) : tArg a ≤ 1686629714 := by unfold tArg; omega
theorem uArg_mono {a b : Nat} (h : a ≤ b) : uArg a ≤ uArg b := mulT_le (Nat.mul_le_mul (tArg_mono h) (tArg_mono h))
theorem uArg_top {a : Nat} (h : a ≤ 16200000) : uArg a ≤ 1325400000 := by
  have h1 := tArg_top h
  have h2 : tArg a * tArg a ≤ 1686629714 * 1686629714 := Nat.mul_le_mul h1 h1
  unfold uArg mulT
  omega
theorem cosT_anti {a b : Nat} (h : a ≤ b) (hb : b ≤ 16200000) : cosT b ≤ cosT a := by
  obtain ⟨d, hd⟩ : ∃ d, uArg b = uArg a + d := ⟨uArg b - uArg a, by have := uArg_mono h; omega⟩
  have hu := uArg_top hb
  rw [hd] at hu
  have hn := near_all hu [90, 56, 30, 12, 2] _ _ (by decide) (near_start _ _)
  unfold cosT
  rw [hd]
  have := hn.le
  omega
theorem sinT_mono {a b : Nat} (h : a ≤ b) (hb : b ≤ 16200000) : sinT a ≤ sinT b := by
  obtain ⟨d, hd⟩ : ∃ d, uArg b = uArg a + d := ⟨uArg b - uArg a, by have := uArg_mono h; omega⟩
  obtain ⟨s, hs⟩ : ∃ s, tArg b = tArg a + s := ⟨tArg b - tArg a, by have := tArg_mono h; omega⟩
  have hu := uArg_top hb
  have ht := tArg_top hb
  rw [hd] at hu
  have hd2 : d ≤ 2 * s := by
    have h1 : tArg b * tArg b ≤ tArg a * tArg a + 2 * s * 2147483648 := by
      rw [hs]
      rw [hs] at ht
      rw [Nat.mul_add, Nat.add_mul, Nat.add_mul]
      have h2 : s * tArg a ≤ s * 1686629714 := Nat.mul_le_mul_left s (by omega)
      have h3 : (tArg a + s) * s ≤ 1686629714 * s := Nat.mul_le_mul_right s ht
      rw [Nat.add_mul] at h3
      omega
    have h2 := mulT_add h1
    unfold uArg at hd
    omega
  have hn := near_all hu [110, 72, 42, 20] _ _ (by decide) (near_start _ _)
  have hn5 := near_step hn hu (n := 6) (by decide)
  have hn6 := near_half hn hu (n := 6) (by decide) hd2
  have e1 : ∀ u, serR u [110, 72, 42, 20, 6] oneT = oneT - divT (mulT u (serR u [110, 72, 42, 20] oneT)) 6 := fun u => serR_snoc u [110, 72, 42, 20] oneT 6
  unfold sinT
  rw [e1, e1, hd]
  obtain ⟨R, hR⟩ : ∃ R, oneT - divT (mulT (uArg a) (serR (uArg a) [110, 72, 42, 20] oneT)) 6 = R := ⟨_, rfl⟩
  have hbig : 1900000000 ≤ oneT - divT (mulT (uArg a + d) (serR (uArg a + d) [110, 72, 42, 20] oneT)) 6 := by
    have h6 := mulT_small (u := uArg a + d) (r := serR (uArg a + d) [110, 72, 42, 20] oneT) (by have := hn.le; have := hn.top; omega)
    have h7 : oneT = 2147483648 := rfl
    unfold divT
    omega
  obtain ⟨R', hR'⟩ : ∃ R', oneT - divT (mulT (uArg a + d) (serR (uArg a + d) [110, 72, 42, 20] oneT)) 6 = R' := ⟨_, rfl⟩
  rw [hR] at hn5 hn6 ⊢
  rw [hR'] at hn5 hn6 hbig ⊢
  have hle := hn5.le
  have hm : tArg a * R ≤ tArg b * R' := by
    rw [hs] at ht ⊢
    obtain ⟨e, rfl⟩ : ∃ e, R = R' + e := ⟨R - R', by omega⟩
    rw [Nat.mul_add, Nat.add_mul]
    have h5 : tArg a * e ≤ tArg a * s := Nat.mul_le_mul_left _ (by omega)
    have h6 : s * tArg a ≤ s * R' := Nat.mul_le_mul_left s (by omega)
    rw [Nat.mul_comm s (tArg a)] at h6
    omega
  have := mulT_le hm
  omega
theorem serR_top (ns : List Nat) : ∀ (r u : Nat), r ≤ 2147483648 → serR u ns r ≤ 2147483648 := by
  induction ns with
  | nil => intro r u h; rw [serR_nil]; exact h
  | cons n ns ih => intro r u h; rw [serR_cons]; exact ih _ _ (Nat.sub_le _ _)
theorem cosT_top (a : Nat) : cosT a ≤ 1073741824 := by
  have h := serR_top [90, 56, 30, 12, 2] oneT (uArg a) (Nat.le_refl _)
  unfold cosT
  omega
theorem sinT_top {a : Nat} (h : a ≤ 16200000) : sinT a ≤ 900000000 := by
  have h1 := mulT_small (u := tArg a) (r := serR (uArg a) [110, 72, 42, 20, 6] oneT) (serR_top _ _ _ (Nat.le_refl _))
  have h2 := tArg_top h
  unfold sinT
  omega
/-- the last place up to which a test that holds no more, once it has failed, holds -/
theorem last_place (p : Nat → Bool) : ∀ n : Nat, (∀ i j, 1 ≤ i → i ≤ j → j ≤ n → p j = true → p i = true) → ∃ g, g ≤ n ∧ ∀ c, 1 ≤ c → c ≤ n → (p c = true ↔ c ≤ g)
  | 0, _ => ⟨0, Nat.le_refl _, fun c h1 h2 => by omega⟩
  | n + 1, h => by
    cases hp : p (n + 1) with
    | true => exact ⟨n + 1, Nat.le_refl _, fun c h1 h2 => ⟨fun _ => h2, fun _ => h c (n + 1) h1 h2 (Nat.le_refl _) hp⟩⟩
    | false =>
      obtain ⟨g, hg, hc⟩ := last_place p n (fun i j h1 h2 h3 => h i j h1 h2 (by omega))
      refine ⟨g, by omega, fun c h1 h2 => ?_⟩
      rcases Nat.lt_or_ge n c with h3 | h3
      · have : c = n + 1 := by omega
        subst this
        rw [hp]
        constructor
        · intro h; cases h
        · intro h; omega
      · exact hc c h1 h3
end Go.Proofs.YteojggbmkppjoaaGreatDoor
namespace Go.Proofs.YteojggbmkppjoaaGreatDoor
set_option linter.unusedVariables false
set_option linter.unusedSimpArgs false

/-- an angle from 0 to the circle -/
def nrmN (a : Int) : Nat := (a % 129600000).toNat
def quaT (b : Nat) : Nat := if b ≤ 16200000 then sinT b else cosT (32400000 - b)
def sinN (b : Nat) : Int := if b ≤ 32400000 then (quaT b : Int) else if b ≤ 64800000 then (quaT (64800000 - b) : Int) else if b ≤ 97200000 then -(quaT (b - 64800000) : Int) else -(quaT (129600000 - b) : Int)
def sinZ (a : Int) : Int := sinN (nrmN a)
def cosZ (a : Int) : Int := sinZ ((nrmN a : Int) + 32400000)
theorem nrmN_lt (a : Int) : nrmN a < 129600000 := by unfold nrmN; omega
theorem nrmN_small {c : Nat} (h : c < 129600000) : nrmN (c : Int) = c := by unfold nrmN; omega
theorem quaT_le (b : Nat) : quaT b ≤ 1073741824 := by
  unfold quaT; split
  · rename_i h; have := sinT_top h; omega
  · exact cosT_top _
theorem sinN_bd (b : Nat) : -1073741824 ≤ sinN b ∧ sinN b ≤ 1073741824 := by
  unfold sinN
  have h1 := quaT_le b
  have h2 := quaT_le (64800000 - b)
  have h3 := quaT_le (b - 64800000)
  have h4 := quaT_le (129600000 - b)
  split
  · omega
  · split
    · omega
    · split <;> omega
theorem sinZ_bd (a : Int) : -1073741824 ≤ sinZ a ∧ sinZ a ≤ 1073741824 := sinN_bd _
theorem cosZ_bd (a : Int) : -1073741824 ≤ cosZ a ∧ cosZ a ≤ 1073741824 := by unfold cosZ; exact sinZ_bd _
/-- the cosine from 0 to 45 degrees -/
def cosE (c : Nat) : Nat := if c < 16200000 then cosT c else sinT 16200000
theorem quaT_other {r : Nat} (h : r ≤ 16200000) : quaT r = sinT r ∧ quaT (32400000 - r) = cosE r := by
  unfold quaT cosE
  refine ⟨if_pos h, ?_⟩
  by_cases h2 : r < 16200000
  · rw [if_neg (by omega), if_pos h2, show 32400000 - (32400000 - r) = r by omega]
  · obtain rfl : r = 16200000 := by omega
    rw [if_pos (by omega), if_neg (by omega)]
theorem sinZ_small {c : Nat} (h : c ≤ 16200000) : sinZ (c : Int) = (sinT c : Int) := by
  unfold sinZ sinN
  rw [nrmN_small (by omega), if_pos (by omega), (quaT_other h).1]
theorem cosN_eq (b : Nat) (h : b < 129600000) : sinN (nrmN ((b : Int) + 32400000)) = if b ≤ 32400000 then (quaT (32400000 - b) : Int) else if b ≤ 64800000 then -(quaT (b - 32400000) : Int) else if b ≤ 97200000 then (if b = 97200000 then (quaT 0 : Int) else -(quaT (97200000 - b) : Int)) else (quaT (b - 97200000) : Int) := by
  have e : nrmN ((b : Int) + 32400000) = if b < 97200000 then b + 32400000 else b - 97200000 := by unfold nrmN; split <;> omega
  rw [e]
  by_cases h1 : b ≤ 32400000
  · rw [if_pos (by omega), if_pos h1]
    unfold sinN
    by_cases h2 : b = 0
    · subst h2; rfl
    · rw [if_neg (by omega), if_pos (by omega), show 64800000 - (b + 32400000) = 32400000 - b by omega]
  · rw [if_neg h1]
    by_cases h2 : b ≤ 64800000
    · rw [if_pos (by omega), if_pos h2]
      unfold sinN
      rw [if_neg (by omega), if_neg (by omega), if_pos (by omega), show b + 32400000 - 64800000 = b - 32400000 by omega]
    · rw [if_neg h2]
      by_cases h3 : b < 97200000
      · rw [if_pos h3, if_pos (by omega), if_neg (by omega)]
        unfold sinN
        rw [if_neg (by omega), if_neg (by omega), if_neg (by omega), show 129600000 - (b + 32400000) = 97200000 - b by omega]
      · rw [if_neg h3]
        unfold sinN
        by_cases h4 : b = 97200000
        · subst h4; rfl
        · rw [if_pos (by omega), if_neg (by omega)]
theorem cosZ_small {c : Nat} (h : c ≤ 16200000) : cosZ (c : Int) = (cosE c : Int) := by
  unfold cosZ sinZ
  rw [cosN_eq _ (nrmN_lt _), nrmN_small (by omega), if_pos (by omega), (quaT_other h).2]
theorem evalS : sinT 16200000 = 759250125 := by decide +kernel
theorem evalC : cosT 16199999 = 759250162 := by decide +kernel
theorem evalS30 : sinT 10800000 = 536870912 := by decide +kernel
theorem evalC30 : cosT 10800000 = 929887697 := by decide +kernel
theorem cosE_anti {i j : Nat} (h : i ≤ j) (hj : j ≤ 16200000) : cosE j ≤ cosE i := by
  unfold cosE
  by_cases h1 : j < 16200000
  · rw [if_pos h1, if_pos (by omega)]; exact cosT_anti h hj
  · rw [if_neg h1]
    by_cases h2 : i < 16200000
    · rw [if_pos h2, evalS]
      have := cosT_anti (a := i) (b := 16199999) (by omega) (by omega)
      rw [evalC] at this
      omega
    · rw [if_neg h2]; exact Nat.le_refl _
/-- the two sides of an angle: each as large as a sine or a cosine from 0 to 45 degrees -/
theorem two_sides (a : Int) : ∃ r, r ≤ 16200000 ∧ ((sinZ a).natAbs = sinT r ∧ (cosZ a).natAbs = cosE r ∨ (sinZ a).natAbs = cosE r ∧ (cosZ a).natAbs = sinT r) := by
  have key : ∃ r, r ≤ 32400000 ∧ (sinZ a).natAbs = quaT r ∧ (cosZ a).natAbs = quaT (32400000 - r) := by
    have hb := nrmN_lt a
    unfold cosZ
    show ∃ r, r ≤ 32400000 ∧ (sinN (nrmN a)).natAbs = quaT r ∧ (sinN (nrmN ((nrmN a : Int) + 32400000))).natAbs = quaT (32400000 - r)
    rw [cosN_eq _ hb]
    generalize nrmN a = b at hb
    unfold sinN
    by_cases h1 : b ≤ 32400000
    · rw [if_pos h1, if_pos h1]
      exact ⟨b, h1, by omega, by omega⟩
    · rw [if_neg h1, if_neg h1]
      by_cases h2 : b ≤ 64800000
      · rw [if_pos h2, if_pos h2]
        exact ⟨64800000 - b, by omega, by omega, by rw [show 32400000 - (64800000 - b) = b - 32400000 by omega]; omega⟩
      · rw [if_neg h2, if_neg h2]
        by_cases h3 : b ≤ 97200000
        · rw [if_pos h3, if_pos h3]
          refine ⟨b - 64800000, by omega, by omega, ?_⟩
          rw [show 32400000 - (b - 64800000) = 97200000 - b by omega]
          split
          · rename_i h4; subst h4; rfl
          · omega
        · rw [if_neg h3, if_neg h3]
          exact ⟨129600000 - b, by omega, by omega, by rw [show 32400000 - (129600000 - b) = b - 97200000 by omega]; omega⟩
  obtain ⟨r, hr, h1, h2⟩ := key
  rcases Nat.lt_or_ge r 16200000 with h | h
  · exact ⟨r, by omega, .inl ⟨by rw [h1, (quaT_other (Nat.le_of_lt h)).1], by rw [h2, (quaT_other (Nat.le_of_lt h)).2]⟩⟩
  · have hq := quaT_other (r := 32400000 - r) (by omega)
    rw [show 32400000 - (32400000 - r) = r by omega] at hq
    exact ⟨32400000 - r, by omega, .inr ⟨by rw [h1, hq.2], by rw [h2, hq.1]⟩⟩
theorem sq_le {a b : Nat} (h : a ≤ b) : a * a ≤ b * b := Nat.mul_le_mul h h
theorem part_bd {r : Nat} (h : r ≤ 16200000) : 853000000000000000 ≤ sinT r * sinT r + cosE r * cosE r ∧ sinT r * sinT r + cosE r * cosE r ≤ 1450000000000000000 := by
  have hs := sinT_mono (a := r) (b := 16200000) h (Nat.le_refl _)
  rw [evalS] at hs
  have hc := cosE_anti (i := r) (j := 16200000) h (Nat.le_refl _)
  have e1 : cosE 16200000 = 759250125 := by unfold cosE; rw [if_neg (by omega), evalS]
  rw [e1] at hc
  rcases Nat.le_total r 10800000 with h30 | h30
  · have hs2 := sinT_mono (a := r) (b := 10800000) h30 (by omega)
    rw [evalS30] at hs2
    have hc2 := cosE_anti (i := r) (j := 10800000) h30 (by omega)
    have e2 : cosE 10800000 = 929887697 := by unfold cosE; rw [if_pos (by omega), evalC30]
    rw [e2] at hc2
    have hc3 : cosE r ≤ 1073741824 := by unfold cosE; rw [if_pos (by omega)]; exact cosT_top r
    have k1 := sq_le hs2
    have k2 := sq_le hc2
    have k3 := sq_le hc3
    omega
  · have hs2 := sinT_mono (a := 10800000) (b := r) h30 h
    rw [evalS30] at hs2
    have hc2 := cosE_anti (i := 10800000) (j := r) h30 h
    have e2 : cosE 10800000 = 929887697 := by unfold cosE; rw [if_pos (by omega), evalC30]
    rw [e2] at hc2
    have k1 := sq_le hs2
    have k2 := sq_le hs
    have k3 := sq_le hc
    have k4 := sq_le hc2
    omega
theorem sq_abs (x : Int) : x * x = ((x.natAbs * x.natAbs : Nat) : Int) := by rw [Int.natCast_mul, ← Int.natAbs_mul_self' x]
theorem circ_bd (a : Int) : 853000000000000000 ≤ sinZ a * sinZ a + cosZ a * cosZ a ∧ sinZ a * sinZ a + cosZ a * cosZ a ≤ 1450000000000000000 := by
  obtain ⟨r, hr, h⟩ := two_sides a
  have hp := part_bd hr
  rw [sq_abs (sinZ a), sq_abs (cosZ a)]
  rcases h with ⟨h1, h2⟩ | ⟨h1, h2⟩
  · rw [h1, h2]; omega
  · rw [h1, h2]; omega
/-- a product without its scale -/
def rnd (x : Int) : Int := (x + 536870912) / 1073741824
theorem rnd_bd (x : Int) : rnd x * 1073741824 ≤ x + 536870912 ∧ x + 536870912 < rnd x * 1073741824 + 1073741824 := by unfold rnd; omega
theorem mul_bd {a b A B : Int} (h1 : -A ≤ a) (h2 : a ≤ A) (h3 : -B ≤ b) (h4 : b ≤ B) : -(A * B) ≤ a * b ∧ a * b ≤ A * B := by
  have e1 : 0 ≤ (A - a) * (B - b) := Int.mul_nonneg (by omega) (by omega)
  have e2 : 0 ≤ (A + a) * (B + b) := Int.mul_nonneg (by omega) (by omega)
  have e3 : 0 ≤ (A - a) * (B + b) := Int.mul_nonneg (by omega) (by omega)
  have e4 : 0 ≤ (A + a) * (B - b) := Int.mul_nonneg (by omega) (by omega)
  constructor <;> grind
theorem rnd_sq {X : Int} (h1 : -2305843009213693952 ≤ X) (h2 : X ≤ 2305843009213693952) :
    X * X - 2475880078570760549798248448 ≤ rnd X * rnd X * 1152921504606846976 ∧ rnd X * rnd X * 1152921504606846976 ≤ X * X + 2475880366801136701509959680 := by
  have hr := rnd_bd X
  obtain ⟨d, hd⟩ : ∃ d, rnd X * 1073741824 - X = d := ⟨_, rfl⟩
  have e := mul_bd (a := d) (b := X) (A := 536870912) (B := 2305843009213693952) (by omega) (by omega) h1 h2
  have e2 := mul_bd (a := d) (b := d) (A := 536870912) (B := 536870912) (by omega) (by omega) (by omega) (by omega)
  have e3 : 0 ≤ d * d := by rw [sq_abs]; omega
  have hk : rnd X * rnd X * 1152921504606846976 = X * X + 2 * (d * X) + d * d := by
    have : rnd X * 1073741824 = X + d := by omega
    have h3 : (rnd X * 1073741824) * (rnd X * 1073741824) = (X + d) * (X + d) := by rw [this]
    grind
  omega
theorem sq_nonneg (x : Int) : 0 ≤ x * x := by rw [sq_abs]; omega
theorem abs_of_sq {x K : Int} (hK : 0 ≤ K) (h : x * x ≤ K * K) : -K ≤ x ∧ x ≤ K := by
  have e : (K + 1) * (K + 1) = K * K + 2 * K + 1 := by grind
  constructor
  · by_cases h1 : x < -K
    · have := Int.mul_le_mul (a := K + 1) (b := K + 1) (c := -x) (d := -x) (by omega) (by omega) (by omega) (by omega)
      rw [Int.neg_mul_neg] at this
      omega
    · omega
  · by_cases h1 : K < x
    · have := Int.mul_le_mul (a := K + 1) (b := K + 1) (c := x) (d := x) (by omega) (by omega) (by omega) (by omega)
      omega
    · omega
/-- a direction -/
structure V3 where
  x : Int
  y : Int
  z : Int
def vecOf (la lo : Int) : V3 := ⟨rnd (cosZ la * cosZ lo), rnd (cosZ la * sinZ lo), sinZ la⟩
def V3.dot (u v : V3) : Int := u.x * v.x + u.y * v.y + u.z * v.z
def V3.c1 (u v : V3) : Int := u.y * v.z - u.z * v.y
def V3.c2 (u v : V3) : Int := u.z * v.x - u.x * v.z
def V3.c3 (u v : V3) : Int := u.x * v.y - u.y * v.x
def V3.sq (u : V3) : Int := u.x * u.x + u.y * u.y + u.z * u.z
theorem lagrange (u v : V3) : u.dot v * u.dot v + (u.c1 v * u.c1 v + u.c2 v * u.c2 v + u.c3 v * u.c3 v) = u.sq * v.sq := by
  unfold V3.dot V3.c1 V3.c2 V3.c3 V3.sq; grind
/-- a vector's parts are no longer than one -/
structure V3.Ok (u : V3) : Prop where
  x : -1073741824 ≤ u.x ∧ u.x ≤ 1073741824
  y : -1073741824 ≤ u.y ∧ u.y ≤ 1073741824
  z : -1073741824 ≤ u.z ∧ u.z ≤ 1073741824
  lo : 631000000000000000 ≤ u.sq
  hi : u.sq ≤ 1824000000000000000
theorem rnd_unit {X : Int} (h1 : -1152921504606846976 ≤ X) (h2 : X ≤ 1152921504606846976) : -1073741824 ≤ rnd X ∧ rnd X ≤ 1073741824 := by unfold rnd; omega
theorem prod_bd (a b : Int) (h1 : -1073741824 ≤ a ∧ a ≤ 1073741824) (h2 : -1073741824 ≤ b ∧ b ≤ 1073741824) : -1152921504606846976 ≤ a * b ∧ a * b ≤ 1152921504606846976 :=
  mul_bd h1.1 h1.2 h2.1 h2.2
theorem vec_lin {P Q A B T C S : Int} (r1 : A - 2475880078570760549798248448 ≤ P * 1152921504606846976 ∧ P * 1152921504606846976 ≤ A + 2475880366801136701509959680)
    (r2 : B - 2475880078570760549798248448 ≤ Q * 1152921504606846976 ∧ Q * 1152921504606846976 ≤ B + 2475880366801136701509959680) (hp : A + B = T) (hu : T ≤ C * 1450000000000000000) (hl : C * 853000000000000000 ≤ T)
    (ca : 853000000000000000 ≤ S + C ∧ S + C ≤ 1450000000000000000) (hC : 0 ≤ C) (hS : 0 ≤ S) : 631000000000000000 ≤ P + Q + S ∧ P + Q + S ≤ 1824000000000000000 := by
  omega
theorem vec_ok (la lo : Int) : (vecOf la lo).Ok := by
  have hx := prod_bd _ _ (cosZ_bd la) (cosZ_bd lo)
  have hy := prod_bd _ _ (cosZ_bd la) (sinZ_bd lo)
  have r1 := rnd_sq (X := cosZ la * cosZ lo) (by omega) (by omega)
  have r2 := rnd_sq (X := cosZ la * sinZ lo) (by omega) (by omega)
  have cb := circ_bd lo
  have ca := circ_bd la
  have hc := sq_nonneg (cosZ la)
  have hs := sq_nonneg (sinZ la)
  have hp : cosZ la * cosZ lo * (cosZ la * cosZ lo) + cosZ la * sinZ lo * (cosZ la * sinZ lo) = cosZ la * cosZ la * (sinZ lo * sinZ lo + cosZ lo * cosZ lo) := by grind
  have hu : cosZ la * cosZ la * (sinZ lo * sinZ lo + cosZ lo * cosZ lo) ≤ cosZ la * cosZ la * 1450000000000000000 := Int.mul_le_mul_of_nonneg_left cb.2 hc
  have hl : cosZ la * cosZ la * 853000000000000000 ≤ cosZ la * cosZ la * (sinZ lo * sinZ lo + cosZ lo * cosZ lo) := Int.mul_le_mul_of_nonneg_left cb.1 hc
  refine ⟨rnd_unit hx.1 hx.2, rnd_unit hy.1 hy.2, sinZ_bd la, ?_, ?_⟩
  · exact (vec_lin r1 r2 hp hu hl ca hc hs).1
  · exact (vec_lin r1 r2 hp hu hl ca hc hs).2
/-- two directions: their product, and the parts of what stands upright on both -/
structure PairOk (u v : V3) : Prop where
  d1 : -1824000000000000000 ≤ u.dot v
  d2 : u.dot v ≤ 1824000000000000000
  s1 : rnd (u.c1 v).natAbs * rnd (u.c1 v).natAbs + rnd (u.c2 v).natAbs * rnd (u.c2 v).natAbs + rnd (u.c3 v).natAbs * rnd (u.c3 v).natAbs ≤ 2900000000000000000
  nz : ¬ (rnd (u.c1 v).natAbs = 0 ∧ rnd (u.c2 v).natAbs = 0 ∧ rnd (u.c3 v).natAbs = 0 ∧ rnd (u.dot v) = 0)
theorem pair_ok {u v : V3} (hu : u.Ok) (hv : v.Ok) : PairOk u v := by
  have hL := lagrange u v
  have h1 : u.sq * v.sq ≤ 1824000000000000000 * 1824000000000000000 := Int.mul_le_mul hu.hi hv.hi (by have := hv.lo; omega) (by omega)
  have h2 : 631000000000000000 * 631000000000000000 ≤ u.sq * v.sq := Int.mul_le_mul hu.lo hv.lo (by omega) (by have := hu.lo; omega)
  have n0 := sq_nonneg (u.dot v)
  have n1 := sq_nonneg (u.c1 v)
  have n2 := sq_nonneg (u.c2 v)
  have n3 := sq_nonneg (u.c3 v)
  have a0 := abs_of_sq (x := u.dot v) (K := 1824000000000000000) (by omega) (by omega)
  have a1 := abs_of_sq (x := u.c1 v) (K := 1824000000000000000) (by omega) (by omega)
  have a2 := abs_of_sq (x := u.c2 v) (K := 1824000000000000000) (by omega) (by omega)
  have a3 := abs_of_sq (x := u.c3 v) (K := 1824000000000000000) (by omega) (by omega)
  have b1 := rnd_sq (X := ((u.c1 v).natAbs : Int)) (by omega) (by omega)
  have b2 := rnd_sq (X := ((u.c2 v).natAbs : Int)) (by omega) (by omega)
  have b3 := rnd_sq (X := ((u.c3 v).natAbs : Int)) (by omega) (by omega)
  have q1 : ((u.c1 v).natAbs : Int) * ((u.c1 v).natAbs : Int) = u.c1 v * u.c1 v := by rw [sq_abs (u.c1 v), Int.natCast_mul]
  have q2 : ((u.c2 v).natAbs : Int) * ((u.c2 v).natAbs : Int) = u.c2 v * u.c2 v := by rw [sq_abs (u.c2 v), Int.natCast_mul]
  have q3 : ((u.c3 v).natAbs : Int) * ((u.c3 v).natAbs : Int) = u.c3 v * u.c3 v := by rw [sq_abs (u.c3 v), Int.natCast_mul]
  refine ⟨a0.1, a0.2, by omega, ?_⟩
  rintro ⟨z1, z2, z3, z0⟩
  have k1 : ((u.c1 v).natAbs : Int) < 536870912 := by unfold rnd at z1; omega
  have k2 : ((u.c2 v).natAbs : Int) < 536870912 := by unfold rnd at z2; omega
  have k3 : ((u.c3 v).natAbs : Int) < 536870912 := by unfold rnd at z3; omega
  have k0 : -536870912 ≤ u.dot v ∧ u.dot v ≤ 536870912 := by unfold rnd at z0; omega
  have m1 := (mul_bd (A := 536870912) (B := 536870912) (a := u.c1 v) (b := u.c1 v) (by omega) (by omega) (by omega) (by omega)).2
  have m2 := (mul_bd (A := 536870912) (B := 536870912) (a := u.c2 v) (b := u.c2 v) (by omega) (by omega) (by omega) (by omega)).2
  have m3 := (mul_bd (A := 536870912) (B := 536870912) (a := u.c3 v) (b := u.c3 v) (by omega) (by omega) (by omega) (by omega)).2
  have m0 := (mul_bd (A := 536870912) (B := 536870912) (a := u.dot v) (b := u.dot v) (by omega) (by omega) (by omega) (by omega)).2
  omega
/-! ### square roots -/
/-- the square root, rounded down -/
noncomputable def isq (n : Nat) : Nat := Classical.epsilon fun s => s * s ≤ n ∧ n < (s + 1) * (s + 1)
theorem isq_ex : ∀ n : Nat, ∃ s, s * s ≤ n ∧ n < (s + 1) * (s + 1)
  | 0 => ⟨0, by omega, by omega⟩
  | n + 1 => by
    obtain ⟨s, h1, h2⟩ := isq_ex n
    by_cases h : n + 1 < (s + 1) * (s + 1)
    · exact ⟨s, by omega, h⟩
    · refine ⟨s + 1, by omega, ?_⟩
      have : (s + 1 + 1) * (s + 1 + 1) = (s + 1) * (s + 1) + 2 * s + 3 := by grind
      omega
theorem isq_spec (n : Nat) : isq n * isq n ≤ n ∧ n < (isq n + 1) * (isq n + 1) := Classical.epsilon_spec (p := fun s => s * s ≤ n ∧ n < (s + 1) * (s + 1)) (isq_ex n)
theorem isq_eq {n s : Nat} (h1 : s * s ≤ n) (h2 : n < (s + 1) * (s + 1)) : isq n = s := by
  obtain ⟨h3, h4⟩ := isq_spec n
  rcases Nat.lt_trichotomy (isq n) s with h | h | h
  · have := Nat.mul_le_mul (show isq n + 1 ≤ s by omega) (show isq n + 1 ≤ s by omega); omega
  · exact h
  · have := Nat.mul_le_mul (show s + 1 ≤ isq n by omega) (show s + 1 ≤ isq n by omega); omega
theorem isq_bd {n : Nat} (h : n ≤ 2900000000000000000) : isq n ≤ 1702938636 := by
  obtain ⟨h3, h4⟩ := isq_spec n
  rcases Nat.lt_or_ge 1702938636 (isq n) with h1 | h1
  · have := Nat.mul_le_mul (show 1702938637 ≤ isq n by omega) (show 1702938637 ≤ isq n by omega); omega
  · exact h1
theorem isq_zero {n : Nat} (h : isq n = 0) : n = 0 := by
  obtain ⟨h3, h4⟩ := isq_spec n; rw [h] at h4; omega
/-! ### the angle of two sides -/
theorem ok_down {m n : Int} (hn : 0 ≤ n) (hm : 0 ≤ m) (i j : Nat) (h1 : i ≤ j) (h2 : j ≤ 16200000) (h : sinZ (j : Int) * m ≤ cosZ (j : Int) * n) : sinZ (i : Int) * m ≤ cosZ (i : Int) * n := by
  rw [sinZ_small h2, cosZ_small h2] at h
  rw [sinZ_small (Nat.le_trans h1 h2), cosZ_small (Nat.le_trans h1 h2)]
  have k1 : (sinT i : Int) * m ≤ (sinT j : Int) * m := Int.mul_le_mul_of_nonneg_right (by have := sinT_mono h1 h2; omega) hm
  have k2 : (cosE j : Int) * n ≤ (cosE i : Int) * n := Int.mul_le_mul_of_nonneg_right (by have := cosE_anti h1 h2; omega) hn
  omega
def IsGre (m n : Int) (g : Nat) : Prop := g ≤ 16200000 ∧ ∀ c : Nat, 1 ≤ c → c ≤ 16200000 → (sinZ (c : Int) * m ≤ cosZ (c : Int) * n ↔ c ≤ g)
noncomputable def gre (m n : Int) : Nat := Classical.epsilon (IsGre m n)
theorem gre_spec {m n : Int} (hn : 0 ≤ n) (hm : 0 ≤ m) : IsGre m n (gre m n) := by
  refine Classical.epsilon_spec ?_
  obtain ⟨g, hg, hc⟩ := last_place (fun c => decide (sinZ (c : Int) * m ≤ cosZ (c : Int) * n)) 16200000 (fun i j h1 h2 h3 h4 => decide_eq_true (ok_down hn hm i j h2 h3 (of_decide_eq_true h4)))
  exact ⟨g, hg, fun c h1 h2 => by rw [← hc c h1 h2, decide_eq_true_iff]⟩
/-- the angle whose sine is proportional to y, which is not negative, and whose cosine to x -/
noncomputable def atZ (y x : Int) : Int :=
  if x < 0 then 64800000 - (if -x < y then 32400000 - (gre y (-x) : Int) else (gre (-x) y : Int)) else (if x < y then 32400000 - (gre y x : Int) else (gre x y : Int))
/-- the distance of two positions -/
noncomputable def distV (u v : V3) : Int := atZ (isq (rnd (u.c1 v).natAbs * rnd (u.c1 v).natAbs + rnd (u.c2 v).natAbs * rnd (u.c2 v).natAbs + rnd (u.c3 v).natAbs * rnd (u.c3 v).natAbs).toNat) (rnd (u.dot v))
theorem atZ_bd {y x : Int} (hy : 0 ≤ y) : 0 ≤ atZ y x ∧ atZ y x ≤ 64800000 := by
  unfold atZ
  split
  · split
    · have := (gre_spec (m := y) (n := -x) (by omega) (by omega)).1; omega
    · have := (gre_spec (m := -x) (n := y) (by omega) (by omega)).1; omega
  · split
    · have := (gre_spec (m := y) (n := x) (by omega) (by omega)).1; omega
    · have := (gre_spec (m := x) (n := y) (by omega) (by omega)).1; omega
end Go.Proofs.YteojggbmkppjoaaGreatDoor
namespace Go.Proofs.YteojggbmkppjoaaGreatDoor
open Go.RowKit
set_option linter.unusedVariables false
set_option linter.unusedSimpArgs false

theorem natProd {x y : Nat} (hx : x ≤ 2147483648) (hy : y ≤ 2147483648) : (0 : Int) ≤ (x : Int) * (y : Int) ∧ (x : Int) * (y : Int) ≤ 4611686018427387904 := by
  have h := Nat.mul_le_mul hx hy
  rw [← Int.natCast_mul]
  omega
theorem mulT_int (x y : Nat) : (mulT x y : Int) = ((x : Int) * (y : Int) + 1073741824) / 2147483648 := by
  unfold mulT; rw [← Int.natCast_mul]; omega
theorem tmul_any (x y : Nat) (w : World) (hx : x ≤ 2147483648) (hy : y ≤ 2147483648) :
    Calls Tryz.prog 126 #[.int .i64 (x : Int), .int .i64 (y : Int)] w fun e w' => e = .returned (.int .i64 (mulT x y : Int)) ∧ w = w' := by
  have hb := natProd hx hy
  have HM := Lib.hid (mulT_int x y)
  clear hx hy
  go_enter Tryz.func126, Tryz.ntmps126
  go_wp2
  go_ret
  exact ⟨ret_int (by rw [HM.out]), rfl⟩
theorem rtmul_any (x y : Nat) (w : World) (hx : x ≤ 2147483648) (hy : y ≤ 2147483648) :
    Calls Tryz.prog 141 #[.int .i64 (x : Int), .int .i64 (y : Int)] w fun e w' => e = .returned (.int .i64 (mulT x y : Int)) ∧ w = w' := by
  have hb := natProd hx hy
  have HM := Lib.hid (mulT_int x y)
  clear hx hy
  go_enter Tryz.func141, Tryz.ntmps141
  go_wp2
  go_ret
  exact ⟨ret_int (by rw [HM.out]), rfl⟩
theorem tdiv_any (x n : Nat) (w : World) (hx : x ≤ 4611686018427387904) (hn : 1 ≤ n) (hn2 : n ≤ 1000) :
    Calls Tryz.prog 127 #[.int .i64 (x : Int), .int .i64 (n : Int)] w fun e w' => e = .returned (.int .i64 (divT x n : Int)) ∧ w = w' := by
  go_enter Tryz.func127, Tryz.ntmps127
  go_wp2
  go_ret
  exact ⟨ret_int (by unfold divT; rw [Int.natCast_ediv, Int.natCast_add, Int.natCast_ediv]; rfl), rfl⟩
theorem rtdiv_any (x n : Nat) (w : World) (hx : x ≤ 4611686018427387904) (hn : 1 ≤ n) (hn2 : n ≤ 1000) :
    Calls Tryz.prog 140 #[.int .i64 (x : Int), .int .i64 (n : Int)] w fun e w' => e = .returned (.int .i64 (divT x n : Int)) ∧ w = w' := by
  go_enter Tryz.func140, Tryz.ntmps140
  go_wp2
  go_ret
  exact ⟨ret_int (by unfold divT; rw [Int.natCast_ediv, Int.natCast_add, Int.natCast_ediv]; rfl), rfl⟩
theorem tmod_bd {a : Int} (h : a < 0) : -129600000 < a.tmod 129600000 ∧ a.tmod 129600000 ≤ 0 := by
  have e : a.tmod 129600000 = -((-a) % 129600000) := by
    have := Int.neg_tmod (-a) 129600000
    rw [Int.neg_neg] at this
    rw [this, Int.tmod_eq_emod_of_nonneg (by omega)]
  rw [e]; omega
theorem tmod_nrm {a : Int} (h : a < 0) : (nrmN a : Int) = if a.tmod 129600000 = 0 then 0 else a.tmod 129600000 + 129600000 := by
  have e : a.tmod 129600000 = -((-a) % 129600000) := by
    have := Int.neg_tmod (-a) 129600000
    rw [Int.neg_neg] at this
    rw [this, Int.tmod_eq_emod_of_nonneg (by omega)]
  rw [e]; unfold nrmN; split <;> omega
theorem norm_any (a : Int) (w : World) (h1 : -9223372036854775808 ≤ a) (h2 : a ≤ 9223372036854775807) :
    Calls Tryz.prog 54 #[.int .i64 a] w fun e w' => e = .returned (.int .i64 (nrmN a : Int)) ∧ w = w' := by
  by_cases h0 : 0 ≤ a
  · go_enter Tryz.func54, Tryz.ntmps54
    go_wp2
    go_ret
    exact ⟨ret_int (by unfold nrmN; omega), rfl⟩
  · have hA := tmod_bd (a := a) (by omega)
    have HB := Lib.hid (tmod_nrm (a := a) (by omega))
    by_cases hz : a.tmod 129600000 = 0
    · have hz1 : 0 ≤ a.tmod 129600000 := by omega
      have HZ := Lib.hid hz
      clear hz
      go_enter Tryz.func54, Tryz.ntmps54
      go_wp2
      go_ret
      exact ⟨ret_int (by have h5 := HB.out; have h6 := HZ.out; rw [if_pos h6] at h5; omega), rfl⟩
    · have hz1 : a.tmod 129600000 < 0 := by omega
      clear hz
      go_enter Tryz.func54, Tryz.ntmps54
      go_wp2
      go_ret
      exact ⟨ret_int (by have := HB.out; omega), rfl⟩
theorem rnorm_any (a : Int) (w : World) (h1 : -9223372036854775808 ≤ a) (h2 : a ≤ 9223372036854775807) :
    Calls Tryz.prog 80 #[.int .i64 a] w fun e w' => e = .returned (.int .i64 (nrmN a : Int)) ∧ w = w' := by
  by_cases h0 : 0 ≤ a
  · go_enter Tryz.func80, Tryz.ntmps80
    go_wp2
    go_ret
    exact ⟨ret_int (by unfold nrmN; omega), rfl⟩
  · have hA := tmod_bd (a := a) (by omega)
    have HB := Lib.hid (tmod_nrm (a := a) (by omega))
    by_cases hz : a.tmod 129600000 = 0
    · have hz1 : 0 ≤ a.tmod 129600000 := by omega
      have HZ := Lib.hid hz
      clear hz
      go_enter Tryz.func80, Tryz.ntmps80
      go_wp2
      go_ret
      exact ⟨ret_int (by have h5 := HB.out; have h6 := HZ.out; rw [if_pos h6] at h5; omega), rfl⟩
    · have hz1 : a.tmod 129600000 < 0 := by omega
      clear hz
      go_enter Tryz.func80, Tryz.ntmps80
      go_wp2
      go_ret
      exact ⟨ret_int (by have := HB.out; omega), rfl⟩
theorem turn_nat (a b : Int) : (0 : Int) ≤ (nrmN a : Int) + (nrmN b : Int) ∧ (nrmN a : Int) + (nrmN b : Int) < 259200000 := by
  have := nrmN_lt a; have := nrmN_lt b; omega
theorem turn_any (a b : Int) (w : World) (h1 : -9223372036854775808 ≤ a) (h2 : a ≤ 9223372036854775807) (h3 : -9223372036854775808 ≤ b) (h4 : b ≤ 9223372036854775807) :
    Calls Tryz.prog 81 #[.int .i64 a, .int .i64 b] w fun e w' => e = .returned (.int .i64 (nrmN ((nrmN a : Int) + (nrmN b : Int)) : Int)) ∧ w = w' := by
  have hn := turn_nat a b
  go_enter Tryz.func81, Tryz.ntmps81
  go_wp2_with fail
  refine (norm_any a _ h1 h2).mono ?_
  rintro e w' ⟨rfl, rfl⟩
  go_wp2_with fail
  refine (norm_any b _ h3 h4).mono ?_
  rintro e w' ⟨rfl, rfl⟩
  go_wp2_with fail
  refine (norm_any _ _ (by omega) (by omega)).mono ?_
  rintro e w' ⟨rfl, rfl⟩
  go_wp2
  go_ret
  exact ⟨rfl, rfl⟩
theorem rturn_any (a b : Int) (w : World) (h1 : -9223372036854775808 ≤ a) (h2 : a ≤ 9223372036854775807) (h3 : -9223372036854775808 ≤ b) (h4 : b ≤ 9223372036854775807) :
    Calls Tryz.prog 102 #[.int .i64 a, .int .i64 b] w fun e w' => e = .returned (.int .i64 (nrmN ((nrmN a : Int) + (nrmN b : Int)) : Int)) ∧ w = w' := by
  have hn := turn_nat a b
  go_enter Tryz.func102, Tryz.ntmps102
  go_wp2_with fail
  refine (rnorm_any a _ h1 h2).mono ?_
  rintro e w' ⟨rfl, rfl⟩
  go_wp2_with fail
  refine (rnorm_any b _ h3 h4).mono ?_
  rintro e w' ⟨rfl, rfl⟩
  go_wp2_with fail
  refine (rnorm_any _ _ (by omega) (by omega)).mono ?_
  rintro e w' ⟨rfl, rfl⟩
  go_wp2
  go_ret
  exact ⟨rfl, rfl⟩
theorem serT_bd (a : Nat) (h : a ≤ 16200000) (ns : List Nat) : serR (uArg a) ns oneT ≤ 2147483648 ∧ tArg a ≤ 2147483648 ∧ uArg a ≤ 1325400000 :=
  ⟨serR_top _ _ _ (Nat.le_refl _), by have := tArg_top h; omega, uArg_top h⟩
theorem mulT_one (u : Nat) : mulT u oneT = u := by unfold mulT oneT; omega
theorem ser_step (u : Nat) (ns : List Nat) (n : Nat) (hu : u ≤ 1325400000) (hn : 2 ≤ n) (hn2 : n ≤ 1000) :
    mulT u (serR u ns oneT) ≤ 1325400000 ∧ (serR u (ns ++ [n]) oneT : Int) = 2147483648 - (divT (mulT u (serR u ns oneT)) n : Int) := by
  have h1 := mulT_small (u := u) (r := serR u ns oneT) (serR_top _ _ _ (Nat.le_refl _))
  have h2 := divT_half (x := mulT u (serR u ns oneT)) hn
  rw [serR_snoc]
  have : oneT = 2147483648 := rfl
  omega
theorem tArg_int (a : Nat) : (tArg a : Int) = ((a : Int) * 6746518852 + 32400000) / 64800000 := by unfold tArg; omega
/-- a step of a series -/
theorem ser_at (u : Nat) (ns : List Nat) (k n : Nat) (hu : u ≤ 1325400000) (hk : k < ns.length) (hn : ns[k] = n) (h2 : 2 ≤ n) (h3 : n ≤ 1000) :
    mulT u (serR u (ns.take k) oneT) ≤ 1325400000 ∧ serR u (ns.take k) oneT ≤ 2147483648 ∧ (serR u (ns.take (k + 1)) oneT : Int) = 2147483648 - (divT (mulT u (serR u (ns.take k) oneT)) n : Int) ∧ (divT (mulT u (serR u (ns.take k) oneT)) n : Int) ≤ 2147483648 := by
  have h := ser_step u (ns.take k) n hu h2 h3
  rw [List.take_succ_eq_append_getElem hk, hn]
  exact ⟨h.1, serR_top _ _ _ (Nat.le_refl _), h.2, by have := h.2; omega⟩
theorem ser_zero (u : Nat) (ns : List Nat) : mulT u (serR u (ns.take 0) oneT) = u := by rw [List.take_zero, serR_nil, mulT_one]
def SerRel (u : Nat) (ns : List Nat) (r i : Value) : Prop := ∃ (k : Nat) (x : Int) (y : Nat), k ≤ 5 ∧ x = (k : Int) ∧ serR u (ns.take k) oneT = y ∧ i = .int .i64 x ∧ r = .int .i64 (y : Int)
theorem SerRel.start (u : Nat) (ns : List Nat) : SerRel u ns (.int .i64 2147483648) (.int .i64 0) :=
  ⟨0, 0, oneT, by omega, by omega, by rw [List.take_zero, serR_nil], rfl, by rw [oneT]; rfl⟩
set_option maxHeartbeats 2000000 in
theorem tsine_any (a : Nat) (w : World) (ha : a ≤ 16200000) :
    Calls Tryz.prog 104 #[.int .i64 (a : Int)] w fun e w' => e = .returned (.int .i64 (sinT a : Int)) ∧ w = w' := by
  have HT := Lib.hid (tArg_int a)
  have HB := Lib.hid (serT_bd a ha [110, 72, 42, 20, 6])
  obtain ⟨u, hu⟩ : ∃ u, uArg a = u := ⟨_, rfl⟩
  obtain ⟨t, ht⟩ : ∃ t, tArg a = t := ⟨_, rfl⟩
  have HUT : Hid (mulT t t = u) := by unfold Hid; rw [← ht, ← hu, uArg]
  have HO : Hid (∀ y : Nat, serR u [110, 72, 42, 20, 6] oneT = y → sinT a = (mulT t y + 1) / 2) := by
    intro y hy; first | rw [← hy, ← ht, ← hu, sinT] | rw [← hy, ← hu, sinT]
  rw [ht, hu] at HB
  rw [ht] at HT
  have HU := HB.out.2.2
  have HT2 := Lib.hid HB.out.2.1
  clear hu ht
  go_enter Tryz.func104, Tryz.ntmps104
  go_wp2_with fail
  rw [← HT.out]
  refine (tmul_any t t _ HT2.out HT2.out).mono ?_
  rintro e w' ⟨rfl, rfl⟩
  rw [HUT.out]
  go_wp2_with fail
  go_loop [5, 17] (fun r i => SerRel u [110, 72, 42, 20, 6] r i) (fun _ i => 5 - (intOf i).toNat)
  case atStart => exact SerRel.start u [110, 72, 42, 20, 6]
  case round =>
    obtain ⟨k, x, y, hk, hx, hy, rfl, rfl⟩ := hrel
    have HY2 : Hid (y ≤ 2147483648) := by unfold Hid; rw [← hy]; exact serR_top _ _ _ (Nat.le_refl _)
    have hk6 : k = 0 ∨ k = 1 ∨ k = 2 ∨ k = 3 ∨ k = 4 ∨ k = 5 := by omega
    rcases hk6 with rfl | rfl | rfl | rfl | rfl | rfl
    case inr.inr.inr.inr.inr =>
      obtain rfl : x = 5 := hx
      have HF := HO.out y hy
      clear hy hk HO
      have h0 := HY2.out
      have hm := mulT_le (show t * y ≤ 2147483648 * 2147483648 from Nat.mul_le_mul HT2.out h0)
      have hm2 : mulT t y ≤ 2147483648 := Nat.le_trans hm (by decide)
      have HF2 := Lib.hid HF
      clear HF hm
      go_wp2_with fail
      refine (tmul_any t y _ HT2.out HY2.out).mono ?_; rintro e w' ⟨rfl, rfl⟩
      go_wp2
      go_ret
      exact ⟨ret_int (by rw [HF2.out]; omega), rfl⟩
    case inl =>
      obtain rfl : x = 0 := hx
      have hs := ser_at u [110, 72, 42, 20, 6] 0 110 HU (by decide) rfl (by decide) (by decide)
      have e0 : mulT u y = u := by rw [← hy, ser_zero]
      rw [hy] at hs
      try rw [e0] at hs
      obtain ⟨d, hdd⟩ : ∃ d, divT u 110 = d := ⟨_, rfl⟩
      have HDD := Lib.hid hdd
      rw [hdd] at hs
      have HS := Lib.hid hs.2.2.1
      have HV := Lib.hid hs.1
      have HD := Lib.hid hs.2.2.2
      have HU2 : Hid (u ≤ 2147483648) := by unfold Hid; omega
      clear hs hy hk HO hdd HU
      have ix : ∀ w, (Instr.index 143 (.agg #[.int .i64 110, .int .i64 72, .int .i64 42, .int .i64 20, .int .i64 6]) (.int .i64 0)).run Tryz.prog w = .ok (.int .i64 110) w := fun _ => by kernel_rfl
      try clear e0
      go_wp2_with fail
      skip
      refine (tdiv_any u 110 _ (by have := HV.out; omega) (by decide) (by decide)).mono ?_
      rintro e w' ⟨rfl, rfl⟩
      rw [HDD.out]
      have hd := HD.out
      go_wp2
      go_round
      case rel => exact ⟨0 + 1, 0 + 1, _, by omega, rfl, rfl, rfl, by rw [HS.out]⟩
      case measure => simp [intOf]
    case inr.inl =>
      obtain rfl : x = 1 := hx
      have hs := ser_at u [110, 72, 42, 20, 6] 1 72 HU (by decide) rfl (by decide) (by decide)
      skip
      rw [hy] at hs
      try rw [e0] at hs
      obtain ⟨d, hdd⟩ : ∃ d, divT (mulT u y) 72 = d := ⟨_, rfl⟩
      have HDD := Lib.hid hdd
      rw [hdd] at hs
      have HS := Lib.hid hs.2.2.1
      have HV := Lib.hid hs.1
      have HD := Lib.hid hs.2.2.2
      have HU2 : Hid (u ≤ 2147483648) := by unfold Hid; omega
      clear hs hy hk HO hdd HU
      have ix : ∀ w, (Instr.index 143 (.agg #[.int .i64 110, .int .i64 72, .int .i64 42, .int .i64 20, .int .i64 6]) (.int .i64 1)).run Tryz.prog w = .ok (.int .i64 72) w := fun _ => by kernel_rfl
      try clear e0
      go_wp2_with fail
      refine (tmul_any u y _ HU2.out HY2.out).mono ?_; rintro e w' ⟨rfl, rfl⟩; go_wp2_with fail
      refine (tdiv_any (mulT u y) 72 _ (by have := HV.out; omega) (by decide) (by decide)).mono ?_
      rintro e w' ⟨rfl, rfl⟩
      rw [HDD.out]
      have hd := HD.out
      go_wp2
      go_round
      case rel => exact ⟨1 + 1, 1 + 1, _, by omega, rfl, rfl, rfl, by rw [HS.out]⟩
      case measure => simp [intOf]
    case inr.inr.inl =>
      obtain rfl : x = 2 := hx
      have hs := ser_at u [110, 72, 42, 20, 6] 2 42 HU (by decide) rfl (by decide) (by decide)
      skip
      rw [hy] at hs
      try rw [e0] at hs
      obtain ⟨d, hdd⟩ : ∃ d, divT (mulT u y) 42 = d := ⟨_, rfl⟩
      have HDD := Lib.hid hdd
      rw [hdd] at hs
      have HS := Lib.hid hs.2.2.1
      have HV := Lib.hid hs.1
      have HD := Lib.hid hs.2.2.2
      have HU2 : Hid (u ≤ 2147483648) := by unfold Hid; omega
      clear hs hy hk HO hdd HU
      have ix : ∀ w, (Instr.index 143 (.agg #[.int .i64 110, .int .i64 72, .int .i64 42, .int .i64 20, .int .i64 6]) (.int .i64 2)).run Tryz.prog w = .ok (.int .i64 42) w := fun _ => by kernel_rfl
      try clear e0
      go_wp2_with fail
      refine (tmul_any u y _ HU2.out HY2.out).mono ?_; rintro e w' ⟨rfl, rfl⟩; go_wp2_with fail
      refine (tdiv_any (mulT u y) 42 _ (by have := HV.out; omega) (by decide) (by decide)).mono ?_
      rintro e w' ⟨rfl, rfl⟩
      rw [HDD.out]
      have hd := HD.out
      go_wp2
      go_round
      case rel => exact ⟨2 + 1, 2 + 1, _, by omega, rfl, rfl, rfl, by rw [HS.out]⟩
      case measure => simp [intOf]
    case inr.inr.inr.inl =>
      obtain rfl : x = 3 := hx
      have hs := ser_at u [110, 72, 42, 20, 6] 3 20 HU (by decide) rfl (by decide) (by decide)
      skip
      rw [hy] at hs
      try rw [e0] at hs
      obtain ⟨d, hdd⟩ : ∃ d, divT (mulT u y) 20 = d := ⟨_, rfl⟩
      have HDD := Lib.hid hdd
      rw [hdd] at hs
      have HS := Lib.hid hs.2.2.1
      have HV := Lib.hid hs.1
      have HD := Lib.hid hs.2.2.2
      have HU2 : Hid (u ≤ 2147483648) := by unfold Hid; omega
      clear hs hy hk HO hdd HU
      have ix : ∀ w, (Instr.index 143 (.agg #[.int .i64 110, .int .i64 72, .int .i64 42, .int .i64 20, .int .i64 6]) (.int .i64 3)).run Tryz.prog w = .ok (.int .i64 20) w := fun _ => by kernel_rfl
      try clear e0
      go_wp2_with fail
      refine (tmul_any u y _ HU2.out HY2.out).mono ?_; rintro e w' ⟨rfl, rfl⟩; go_wp2_with fail
      refine (tdiv_any (mulT u y) 20 _ (by have := HV.out; omega) (by decide) (by decide)).mono ?_
      rintro e w' ⟨rfl, rfl⟩
      rw [HDD.out]
      have hd := HD.out
      go_wp2
      go_round
      case rel => exact ⟨3 + 1, 3 + 1, _, by omega, rfl, rfl, rfl, by rw [HS.out]⟩
      case measure => simp [intOf]
    case inr.inr.inr.inr.inl =>
      obtain rfl : x = 4 := hx
      have hs := ser_at u [110, 72, 42, 20, 6] 4 6 HU (by decide) rfl (by decide) (by decide)
      skip
      rw [hy] at hs
      try rw [e0] at hs
      obtain ⟨d, hdd⟩ : ∃ d, divT (mulT u y) 6 = d := ⟨_, rfl⟩
      have HDD := Lib.hid hdd
      rw [hdd] at hs
      have HS := Lib.hid hs.2.2.1
      have HV := Lib.hid hs.1
      have HD := Lib.hid hs.2.2.2
      have HU2 : Hid (u ≤ 2147483648) := by unfold Hid; omega
      clear hs hy hk HO hdd HU
      have ix : ∀ w, (Instr.index 143 (.agg #[.int .i64 110, .int .i64 72, .int .i64 42, .int .i64 20, .int .i64 6]) (.int .i64 4)).run Tryz.prog w = .ok (.int .i64 6) w := fun _ => by kernel_rfl
      try clear e0
      go_wp2_with fail
      refine (tmul_any u y _ HU2.out HY2.out).mono ?_; rintro e w' ⟨rfl, rfl⟩; go_wp2_with fail
      refine (tdiv_any (mulT u y) 6 _ (by have := HV.out; omega) (by decide) (by decide)).mono ?_
      rintro e w' ⟨rfl, rfl⟩
      rw [HDD.out]
      have hd := HD.out
      go_wp2
      go_round
      case rel => exact ⟨4 + 1, 4 + 1, _, by omega, rfl, rfl, rfl, by rw [HS.out]⟩
      case measure => simp [intOf]
set_option maxHeartbeats 2000000 in
theorem tcosine_any (a : Nat) (w : World) (ha : a ≤ 16200000) :
    Calls Tryz.prog 105 #[.int .i64 (a : Int)] w fun e w' => e = .returned (.int .i64 (cosT a : Int)) ∧ w = w' := by
  have HT := Lib.hid (tArg_int a)
  have HB := Lib.hid (serT_bd a ha [90, 56, 30, 12, 2])
  obtain ⟨u, hu⟩ : ∃ u, uArg a = u := ⟨_, rfl⟩
  obtain ⟨t, ht⟩ : ∃ t, tArg a = t := ⟨_, rfl⟩
  have HUT : Hid (mulT t t = u) := by unfold Hid; rw [← ht, ← hu, uArg]
  have HO : Hid (∀ y : Nat, serR u [90, 56, 30, 12, 2] oneT = y → cosT a = (y + 1) / 2) := by
    intro y hy; first | rw [← hy, ← ht, ← hu, cosT] | rw [← hy, ← hu, cosT]
  rw [ht, hu] at HB
  rw [ht] at HT
  have HU := HB.out.2.2
  have HT2 := Lib.hid HB.out.2.1
  clear hu ht
  go_enter Tryz.func105, Tryz.ntmps105
  go_wp2_with fail
  rw [← HT.out]
  refine (tmul_any t t _ HT2.out HT2.out).mono ?_
  rintro e w' ⟨rfl, rfl⟩
  rw [HUT.out]
  go_wp2_with fail
  go_loop [5, 17] (fun r i => SerRel u [90, 56, 30, 12, 2] r i) (fun _ i => 5 - (intOf i).toNat)
  case atStart => exact SerRel.start u [90, 56, 30, 12, 2]
  case round =>
    obtain ⟨k, x, y, hk, hx, hy, rfl, rfl⟩ := hrel
    have HY2 : Hid (y ≤ 2147483648) := by unfold Hid; rw [← hy]; exact serR_top _ _ _ (Nat.le_refl _)
    have hk6 : k = 0 ∨ k = 1 ∨ k = 2 ∨ k = 3 ∨ k = 4 ∨ k = 5 := by omega
    rcases hk6 with rfl | rfl | rfl | rfl | rfl | rfl
    case inr.inr.inr.inr.inr =>
      obtain rfl : x = 5 := hx
      have HF := HO.out y hy
      clear hy hk HO
      have h0 := HY2.out
      have hm := mulT_le (show t * y ≤ 2147483648 * 2147483648 from Nat.mul_le_mul HT2.out h0)
      have hm2 : mulT t y ≤ 2147483648 := Nat.le_trans hm (by decide)
      have HF2 := Lib.hid HF
      clear HF hm
      go_wp2_with fail
      skip
      go_wp2
      go_ret
      exact ⟨ret_int (by rw [HF2.out]; omega), rfl⟩
    case inl =>
      obtain rfl : x = 0 := hx
      have hs := ser_at u [90, 56, 30, 12, 2] 0 90 HU (by decide) rfl (by decide) (by decide)
      have e0 : mulT u y = u := by rw [← hy, ser_zero]
      rw [hy] at hs
      try rw [e0] at hs
      obtain ⟨d, hdd⟩ : ∃ d, divT u 90 = d := ⟨_, rfl⟩
      have HDD := Lib.hid hdd
      rw [hdd] at hs
      have HS := Lib.hid hs.2.2.1
      have HV := Lib.hid hs.1
      have HD := Lib.hid hs.2.2.2
      have HU2 : Hid (u ≤ 2147483648) := by unfold Hid; omega
      clear hs hy hk HO hdd HU
      have ix : ∀ w, (Instr.index 143 (.agg #[.int .i64 90, .int .i64 56, .int .i64 30, .int .i64 12, .int .i64 2]) (.int .i64 0)).run Tryz.prog w = .ok (.int .i64 90) w := fun _ => by kernel_rfl
      try clear e0
      go_wp2_with fail
      skip
      refine (tdiv_any u 90 _ (by have := HV.out; omega) (by decide) (by decide)).mono ?_
      rintro e w' ⟨rfl, rfl⟩
      rw [HDD.out]
      have hd := HD.out
      go_wp2
      go_round
      case rel => exact ⟨0 + 1, 0 + 1, _, by omega, rfl, rfl, rfl, by rw [HS.out]⟩
      case measure => simp [intOf]
    case inr.inl =>
      obtain rfl : x = 1 := hx
      have hs := ser_at u [90, 56, 30, 12, 2] 1 56 HU (by decide) rfl (by decide) (by decide)
      skip
      rw [hy] at hs
      try rw [e0] at hs
      obtain ⟨d, hdd⟩ : ∃ d, divT (mulT u y) 56 = d := ⟨_, rfl⟩
      have HDD := Lib.hid hdd
      rw [hdd] at hs
      have HS := Lib.hid hs.2.2.1
      have HV := Lib.hid hs.1
      have HD := Lib.hid hs.2.2.2
      have HU2 : Hid (u ≤ 2147483648) := by unfold Hid; omega
      clear hs hy hk HO hdd HU
      have ix : ∀ w, (Instr.index 143 (.agg #[.int .i64 90, .int .i64 56, .int .i64 30, .int .i64 12, .int .i64 2]) (.int .i64 1)).run Tryz.prog w = .ok (.int .i64 56) w := fun _ => by kernel_rfl
      try clear e0
      go_wp2_with fail
      refine (tmul_any u y _ HU2.out HY2.out).mono ?_; rintro e w' ⟨rfl, rfl⟩; go_wp2_with fail
      refine (tdiv_any (mulT u y) 56 _ (by have := HV.out; omega) (by decide) (by decide)).mono ?_
      rintro e w' ⟨rfl, rfl⟩
      rw [HDD.out]
      have hd := HD.out
      go_wp2
      go_round
      case rel => exact ⟨1 + 1, 1 + 1, _, by omega, rfl, rfl, rfl, by rw [HS.out]⟩
      case measure => simp [intOf]
    case inr.inr.inl =>
      obtain rfl : x = 2 := hx
      have hs := ser_at u [90, 56, 30, 12, 2] 2 30 HU (by decide) rfl (by decide) (by decide)
      skip
      rw [hy] at hs
      try rw [e0] at hs
      obtain ⟨d, hdd⟩ : ∃ d, divT (mulT u y) 30 = d := ⟨_, rfl⟩
      have HDD := Lib.hid hdd
      rw [hdd] at hs
      have HS := Lib.hid hs.2.2.1
      have HV := Lib.hid hs.1
      have HD := Lib.hid hs.2.2.2
      have HU2 : Hid (u ≤ 2147483648) := by unfold Hid; omega
      clear hs hy hk HO hdd HU
      have ix : ∀ w, (Instr.index 143 (.agg #[.int .i64 90, .int .i64 56, .int .i64 30, .int .i64 12, .int .i64 2]) (.int .i64 2)).run Tryz.prog w = .ok (.int .i64 30) w := fun _ => by kernel_rfl
      try clear e0
      go_wp2_with fail
      refine (tmul_any u y _ HU2.out HY2.out).mono ?_; rintro e w' ⟨rfl, rfl⟩; go_wp2_with fail
      refine (tdiv_any (mulT u y) 30 _ (by have := HV.out; omega) (by decide) (by decide)).mono ?_
      rintro e w' ⟨rfl, rfl⟩
      rw [HDD.out]
      have hd := HD.out
      go_wp2
      go_round
      case rel => exact ⟨2 + 1, 2 + 1, _, by omega, rfl, rfl, rfl, by rw [HS.out]⟩
      case measure => simp [intOf]
    case inr.inr.inr.inl =>
      obtain rfl : x = 3 := hx
      have hs := ser_at u [90, 56, 30, 12, 2] 3 12 HU (by decide) rfl (by decide) (by decide)
      skip
      rw [hy] at hs
      try rw [e0] at hs
      obtain ⟨d, hdd⟩ : ∃ d, divT (mulT u y) 12 = d := ⟨_, rfl⟩
      have HDD := Lib.hid hdd
      rw [hdd] at hs
      have HS := Lib.hid hs.2.2.1
      have HV := Lib.hid hs.1
      have HD := Lib.hid hs.2.2.2
      have HU2 : Hid (u ≤ 2147483648) := by unfold Hid; omega
      clear hs hy hk HO hdd HU
      have ix : ∀ w, (Instr.index 143 (.agg #[.int .i64 90, .int .i64 56, .int .i64 30, .int .i64 12, .int .i64 2]) (.int .i64 3)).run Tryz.prog w = .ok (.int .i64 12) w := fun _ => by kernel_rfl
      try clear e0
      go_wp2_with fail
      refine (tmul_any u y _ HU2.out HY2.out).mono ?_; rintro e w' ⟨rfl, rfl⟩; go_wp2_with fail
      refine (tdiv_any (mulT u y) 12 _ (by have := HV.out; omega) (by decide) (by decide)).mono ?_
      rintro e w' ⟨rfl, rfl⟩
      rw [HDD.out]
      have hd := HD.out
      go_wp2
      go_round
      case rel => exact ⟨3 + 1, 3 + 1, _, by omega, rfl, rfl, rfl, by rw [HS.out]⟩
      case measure => simp [intOf]
    case inr.inr.inr.inr.inl =>
      obtain rfl : x = 4 := hx
      have hs := ser_at u [90, 56, 30, 12, 2] 4 2 HU (by decide) rfl (by decide) (by decide)
      skip
      rw [hy] at hs
      try rw [e0] at hs
      obtain ⟨d, hdd⟩ : ∃ d, divT (mulT u y) 2 = d := ⟨_, rfl⟩
      have HDD := Lib.hid hdd
      rw [hdd] at hs
      have HS := Lib.hid hs.2.2.1
      have HV := Lib.hid hs.1
      have HD := Lib.hid hs.2.2.2
      have HU2 : Hid (u ≤ 2147483648) := by unfold Hid; omega
      clear hs hy hk HO hdd HU
      have ix : ∀ w, (Instr.index 143 (.agg #[.int .i64 90, .int .i64 56, .int .i64 30, .int .i64 12, .int .i64 2]) (.int .i64 4)).run Tryz.prog w = .ok (.int .i64 2) w := fun _ => by kernel_rfl
      try clear e0
      go_wp2_with fail
      refine (tmul_any u y _ HU2.out HY2.out).mono ?_; rintro e w' ⟨rfl, rfl⟩; go_wp2_with fail
      refine (tdiv_any (mulT u y) 2 _ (by have := HV.out; omega) (by decide) (by decide)).mono ?_
      rintro e w' ⟨rfl, rfl⟩
      rw [HDD.out]
      have hd := HD.out
      go_wp2
      go_round
      case rel => exact ⟨4 + 1, 4 + 1, _, by omega, rfl, rfl, rfl, by rw [HS.out]⟩
      case measure => simp [intOf]
set_option maxHeartbeats 1000000 in
theorem rargument_any (a : Nat) (w : World) (ha : a ≤ 16200000) :
    Calls Tryz.prog 139 #[.int .i64 (a : Int)] w fun e w' => e = .returned (.tuple #[.int .i64 (tArg a : Int), .int .i64 (uArg a : Int)]) ∧ w = w' := by
  have HT := Lib.hid (tArg_int a)
  have HB := Lib.hid (serT_bd a ha [])
  have HU : Hid (mulT (tArg a) (tArg a) = uArg a) := by unfold Hid; rw [uArg]
  obtain ⟨t, ht⟩ : ∃ t, tArg a = t := ⟨_, rfl⟩
  rw [ht] at HT HB HU ⊢
  clear ht
  go_enter Tryz.func139, Tryz.ntmps139
  go_wp2_with fail
  rw [← HT.out]
  refine (rtmul_any t t _ HB.out.2.1 HB.out.2.1).mono ?_
  rintro e w' ⟨rfl, rfl⟩
  rw [HU.out]
  go_wp2
  go_ret2
  exact ⟨rfl, rfl⟩
set_option maxHeartbeats 2000000 in
theorem rtsine_any (a : Nat) (w : World) (ha : a ≤ 16200000) :
    Calls Tryz.prog 124 #[.int .i64 (a : Int)] w fun e w' => e = .returned (.int .i64 (sinT a : Int)) ∧ w = w' := by
  have HB := Lib.hid (serT_bd a ha [110, 72, 42, 20, 6])
  have HA := Lib.hid (rargument_any a w ha)
  obtain ⟨u, hu⟩ : ∃ u, uArg a = u := ⟨_, rfl⟩
  obtain ⟨t, ht⟩ : ∃ t, tArg a = t := ⟨_, rfl⟩
  have HO : Hid (∀ y : Nat, serR u [110, 72, 42, 20, 6] oneT = y → sinT a = (mulT t y + 1) / 2) := by
    intro y hy; first | rw [← hy, ← ht, ← hu, sinT] | rw [← hy, ← hu, sinT]
  rw [ht, hu] at HB HA
  have HU2 : Hid (u ≤ 2147483648) := by unfold Hid; have := HB.out.2.2; omega
  have HT2 := Lib.hid HB.out.2.1
  have s0 := ser_at u [110, 72, 42, 20, 6] 0 _ HB.out.2.2 (by decide) rfl (by decide) (by decide)
  have s1 := ser_at u [110, 72, 42, 20, 6] 1 _ HB.out.2.2 (by decide) rfl (by decide) (by decide)
  have s2 := ser_at u [110, 72, 42, 20, 6] 2 _ HB.out.2.2 (by decide) rfl (by decide) (by decide)
  have s3 := ser_at u [110, 72, 42, 20, 6] 3 _ HB.out.2.2 (by decide) rfl (by decide) (by decide)
  have s4 := ser_at u [110, 72, 42, 20, 6] 4 _ HB.out.2.2 (by decide) rfl (by decide) (by decide)
  rw [ser_zero] at s0
  have HY := HO.out (serR u ([110, 72, 42, 20, 6].take (4 + 1)) oneT) rfl
  have y5 : Hid (serR u ([110, 72, 42, 20, 6].take (4 + 1)) oneT ≤ 2147483648) := serR_top _ _ _ (Nat.le_refl _)
  generalize serR u ([110, 72, 42, 20, 6].take (0 + 1)) oneT = r1 at *
  generalize serR u ([110, 72, 42, 20, 6].take (1 + 1)) oneT = r2 at *
  generalize serR u ([110, 72, 42, 20, 6].take (2 + 1)) oneT = r3 at *
  generalize serR u ([110, 72, 42, 20, 6].take (3 + 1)) oneT = r4 at *
  generalize serR u ([110, 72, 42, 20, 6].take (4 + 1)) oneT = r5 at *
  have HY2 := Lib.hid HY
  have Y5 := y5
  have hm2 : Hid (mulT t r5 ≤ 2147483648) := Nat.le_trans (mulT_le (show t * r5 ≤ 2147483648 * 2147483648 from Nat.mul_le_mul HT2.out y5.out)) (by decide)
  obtain ⟨d0, hd0⟩ : ∃ d, divT u 110 = d := ⟨_, rfl⟩
  have s0' : u ≤ 1325400000 ∧ (r1 : Int) = 2147483648 - (d0 : Int) ∧ (d0 : Int) ≤ 2147483648 := ⟨s0.1, by rw [← hd0]; exact s0.2.2.1, by rw [← hd0]; exact s0.2.2.2⟩
  have D0 := Lib.hid hd0
  have S0 := Lib.hid s0'
  have Z0 : Hid (r1 ≤ 2147483648) := by unfold Hid; omega
  obtain ⟨d1, hd1⟩ : ∃ d, divT (mulT u r1) 72 = d := ⟨_, rfl⟩
  have s1' : (mulT u r1) ≤ 1325400000 ∧ (r2 : Int) = 2147483648 - (d1 : Int) ∧ (d1 : Int) ≤ 2147483648 := ⟨s1.1, by rw [← hd1]; exact s1.2.2.1, by rw [← hd1]; exact s1.2.2.2⟩
  have D1 := Lib.hid hd1
  have S1 := Lib.hid s1'
  have Z1 : Hid (r2 ≤ 2147483648) := by unfold Hid; omega
  obtain ⟨d2, hd2⟩ : ∃ d, divT (mulT u r2) 42 = d := ⟨_, rfl⟩
  have s2' : (mulT u r2) ≤ 1325400000 ∧ (r3 : Int) = 2147483648 - (d2 : Int) ∧ (d2 : Int) ≤ 2147483648 := ⟨s2.1, by rw [← hd2]; exact s2.2.2.1, by rw [← hd2]; exact s2.2.2.2⟩
  have D2 := Lib.hid hd2
  have S2 := Lib.hid s2'
  have Z2 : Hid (r3 ≤ 2147483648) := by unfold Hid; omega
  obtain ⟨d3, hd3⟩ : ∃ d, divT (mulT u r3) 20 = d := ⟨_, rfl⟩
  have s3' : (mulT u r3) ≤ 1325400000 ∧ (r4 : Int) = 2147483648 - (d3 : Int) ∧ (d3 : Int) ≤ 2147483648 := ⟨s3.1, by rw [← hd3]; exact s3.2.2.1, by rw [← hd3]; exact s3.2.2.2⟩
  have D3 := Lib.hid hd3
  have S3 := Lib.hid s3'
  have Z3 : Hid (r4 ≤ 2147483648) := by unfold Hid; omega
  obtain ⟨d4, hd4⟩ : ∃ d, divT (mulT u r4) 6 = d := ⟨_, rfl⟩
  have s4' : (mulT u r4) ≤ 1325400000 ∧ (r5 : Int) = 2147483648 - (d4 : Int) ∧ (d4 : Int) ≤ 2147483648 := ⟨s4.1, by rw [← hd4]; exact s4.2.2.1, by rw [← hd4]; exact s4.2.2.2⟩
  have D4 := Lib.hid hd4
  have S4 := Lib.hid s4'
  have Z4 : Hid (r5 ≤ 2147483648) := by unfold Hid; omega
  clear s0 s1 s2 s3 s4 s0' s1' s2' s3' s4' hd0 hd1 hd2 hd3 hd4 y5 HY HO hu ht
  go_enter Tryz.func124, Tryz.ntmps124
  go_wp2_with fail
  refine HA.out.mono ?_
  rintro e w' ⟨rfl, rfl⟩
  go_wp2_with fail
  skip
  refine (rtdiv_any u 110 _ (by have := S0.out.1; omega) (by decide) (by decide)).mono ?_
  rintro e w' ⟨rfl, rfl⟩
  rw [D0.out]
  have b0 := S0.out.2.2
  (first | go_wp2_with fail | skip)
  try rw [← S0.out.2.1]
  clear b0
  go_wp2_with fail
  refine (rtmul_any u r1 _ HU2.out Z0.out).mono ?_; rintro e w' ⟨rfl, rfl⟩; go_wp2_with fail
  refine (rtdiv_any (mulT u r1) 72 _ (by have := S1.out.1; omega) (by decide) (by decide)).mono ?_
  rintro e w' ⟨rfl, rfl⟩
  rw [D1.out]
  have b1 := S1.out.2.2
  (first | go_wp2_with fail | skip)
  try rw [← S1.out.2.1]
  clear b1
  go_wp2_with fail
  refine (rtmul_any u r2 _ HU2.out Z1.out).mono ?_; rintro e w' ⟨rfl, rfl⟩; go_wp2_with fail
  refine (rtdiv_any (mulT u r2) 42 _ (by have := S2.out.1; omega) (by decide) (by decide)).mono ?_
  rintro e w' ⟨rfl, rfl⟩
  rw [D2.out]
  have b2 := S2.out.2.2
  (first | go_wp2_with fail | skip)
  try rw [← S2.out.2.1]
  clear b2
  go_wp2_with fail
  refine (rtmul_any u r3 _ HU2.out Z2.out).mono ?_; rintro e w' ⟨rfl, rfl⟩; go_wp2_with fail
  refine (rtdiv_any (mulT u r3) 20 _ (by have := S3.out.1; omega) (by decide) (by decide)).mono ?_
  rintro e w' ⟨rfl, rfl⟩
  rw [D3.out]
  have b3 := S3.out.2.2
  (first | go_wp2_with fail | skip)
  try rw [← S3.out.2.1]
  clear b3
  go_wp2_with fail
  refine (rtmul_any u r4 _ HU2.out Z3.out).mono ?_; rintro e w' ⟨rfl, rfl⟩; go_wp2_with fail
  refine (rtdiv_any (mulT u r4) 6 _ (by have := S4.out.1; omega) (by decide) (by decide)).mono ?_
  rintro e w' ⟨rfl, rfl⟩
  rw [D4.out]
  have b4 := S4.out.2.2
  (first | go_wp2_with fail | skip)
  try rw [← S4.out.2.1]
  clear b4
  refine (rtmul_any t r5 _ HT2.out Y5.out).mono ?_; rintro e w' ⟨rfl, rfl⟩
  have hz := hm2.out
  have hz2 := Z4.out
  go_wp2
  go_ret
  exact ⟨ret_int (by rw [HY2.out]; omega), rfl⟩
set_option maxHeartbeats 2000000 in
theorem rtcosine_any (a : Nat) (w : World) (ha : a ≤ 16200000) :
    Calls Tryz.prog 125 #[.int .i64 (a : Int)] w fun e w' => e = .returned (.int .i64 (cosT a : Int)) ∧ w = w' := by
  have HB := Lib.hid (serT_bd a ha [90, 56, 30, 12, 2])
  have HA := Lib.hid (rargument_any a w ha)
  obtain ⟨u, hu⟩ : ∃ u, uArg a = u := ⟨_, rfl⟩
  obtain ⟨t, ht⟩ : ∃ t, tArg a = t := ⟨_, rfl⟩
  have HO : Hid (∀ y : Nat, serR u [90, 56, 30, 12, 2] oneT = y → cosT a = (y + 1) / 2) := by
    intro y hy; first | rw [← hy, ← ht, ← hu, cosT] | rw [← hy, ← hu, cosT]
  rw [ht, hu] at HB HA
  have HU2 : Hid (u ≤ 2147483648) := by unfold Hid; have := HB.out.2.2; omega
  have HT2 := Lib.hid HB.out.2.1
  have s0 := ser_at u [90, 56, 30, 12, 2] 0 _ HB.out.2.2 (by decide) rfl (by decide) (by decide)
  have s1 := ser_at u [90, 56, 30, 12, 2] 1 _ HB.out.2.2 (by decide) rfl (by decide) (by decide)
  have s2 := ser_at u [90, 56, 30, 12, 2] 2 _ HB.out.2.2 (by decide) rfl (by decide) (by decide)
  have s3 := ser_at u [90, 56, 30, 12, 2] 3 _ HB.out.2.2 (by decide) rfl (by decide) (by decide)
  have s4 := ser_at u [90, 56, 30, 12, 2] 4 _ HB.out.2.2 (by decide) rfl (by decide) (by decide)
  rw [ser_zero] at s0
  have HY := HO.out (serR u ([90, 56, 30, 12, 2].take (4 + 1)) oneT) rfl
  have y5 : Hid (serR u ([90, 56, 30, 12, 2].take (4 + 1)) oneT ≤ 2147483648) := serR_top _ _ _ (Nat.le_refl _)
  generalize serR u ([90, 56, 30, 12, 2].take (0 + 1)) oneT = r1 at *
  generalize serR u ([90, 56, 30, 12, 2].take (1 + 1)) oneT = r2 at *
  generalize serR u ([90, 56, 30, 12, 2].take (2 + 1)) oneT = r3 at *
  generalize serR u ([90, 56, 30, 12, 2].take (3 + 1)) oneT = r4 at *
  generalize serR u ([90, 56, 30, 12, 2].take (4 + 1)) oneT = r5 at *
  have HY2 := Lib.hid HY
  have Y5 := y5
  have hm2 : Hid (mulT t r5 ≤ 2147483648) := Nat.le_trans (mulT_le (show t * r5 ≤ 2147483648 * 2147483648 from Nat.mul_le_mul HT2.out y5.out)) (by decide)
  obtain ⟨d0, hd0⟩ : ∃ d, divT u 90 = d := ⟨_, rfl⟩
  have s0' : u ≤ 1325400000 ∧ (r1 : Int) = 2147483648 - (d0 : Int) ∧ (d0 : Int) ≤ 2147483648 := ⟨s0.1, by rw [← hd0]; exact s0.2.2.1, by rw [← hd0]; exact s0.2.2.2⟩
  have D0 := Lib.hid hd0
  have S0 := Lib.hid s0'
  have Z0 : Hid (r1 ≤ 2147483648) := by unfold Hid; omega
  obtain ⟨d1, hd1⟩ : ∃ d, divT (mulT u r1) 56 = d := ⟨_, rfl⟩
  have s1' : (mulT u r1) ≤ 1325400000 ∧ (r2 : Int) = 2147483648 - (d1 : Int) ∧ (d1 : Int) ≤ 2147483648 := ⟨s1.1, by rw [← hd1]; exact s1.2.2.1, by rw [← hd1]; exact s1.2.2.2⟩
  have D1 := Lib.hid hd1
  have S1 := Lib.hid s1'
  have Z1 : Hid (r2 ≤ 2147483648) := by unfold Hid; omega
  obtain ⟨d2, hd2⟩ : ∃ d, divT (mulT u r2) 30 = d := ⟨_, rfl⟩
  have s2' : (mulT u r2) ≤ 1325400000 ∧ (r3 : Int) = 2147483648 - (d2 : Int) ∧ (d2 : Int) ≤ 2147483648 := ⟨s2.1, by rw [← hd2]; exact s2.2.2.1, by rw [← hd2]; exact s2.2.2.2⟩
  have D2 := Lib.hid hd2
  have S2 := Lib.hid s2'
  have Z2 : Hid (r3 ≤ 2147483648) := by unfold Hid; omega
  obtain ⟨d3, hd3⟩ : ∃ d, divT (mulT u r3) 12 = d := ⟨_, rfl⟩
  have s3' : (mulT u r3) ≤ 1325400000 ∧ (r4 : Int) = 2147483648 - (d3 : Int) ∧ (d3 : Int) ≤ 2147483648 := ⟨s3.1, by rw [← hd3]; exact s3.2.2.1, by rw [← hd3]; exact s3.2.2.2⟩
  have D3 := Lib.hid hd3
  have S3 := Lib.hid s3'
  have Z3 : Hid (r4 ≤ 2147483648) := by unfold Hid; omega
  obtain ⟨d4, hd4⟩ : ∃ d, divT (mulT u r4) 2 = d := ⟨_, rfl⟩
  have s4' : (mulT u r4) ≤ 1325400000 ∧ (r5 : Int) = 2147483648 - (d4 : Int) ∧ (d4 : Int) ≤ 2147483648 := ⟨s4.1, by rw [← hd4]; exact s4.2.2.1, by rw [← hd4]; exact s4.2.2.2⟩
  have D4 := Lib.hid hd4
  have S4 := Lib.hid s4'
  have Z4 : Hid (r5 ≤ 2147483648) := by unfold Hid; omega
  clear s0 s1 s2 s3 s4 s0' s1' s2' s3' s4' hd0 hd1 hd2 hd3 hd4 y5 HY HO hu ht
  go_enter Tryz.func125, Tryz.ntmps125
  go_wp2_with fail
  refine HA.out.mono ?_
  rintro e w' ⟨rfl, rfl⟩
  go_wp2_with fail
  skip
  refine (rtdiv_any u 90 _ (by have := S0.out.1; omega) (by decide) (by decide)).mono ?_
  rintro e w' ⟨rfl, rfl⟩
  rw [D0.out]
  have b0 := S0.out.2.2
  (first | go_wp2_with fail | skip)
  try rw [← S0.out.2.1]
  clear b0
  go_wp2_with fail
  refine (rtmul_any u r1 _ HU2.out Z0.out).mono ?_; rintro e w' ⟨rfl, rfl⟩; go_wp2_with fail
  refine (rtdiv_any (mulT u r1) 56 _ (by have := S1.out.1; omega) (by decide) (by decide)).mono ?_
  rintro e w' ⟨rfl, rfl⟩
  rw [D1.out]
  have b1 := S1.out.2.2
  (first | go_wp2_with fail | skip)
  try rw [← S1.out.2.1]
  clear b1
  go_wp2_with fail
  refine (rtmul_any u r2 _ HU2.out Z1.out).mono ?_; rintro e w' ⟨rfl, rfl⟩; go_wp2_with fail
  refine (rtdiv_any (mulT u r2) 30 _ (by have := S2.out.1; omega) (by decide) (by decide)).mono ?_
  rintro e w' ⟨rfl, rfl⟩
  rw [D2.out]
  have b2 := S2.out.2.2
  (first | go_wp2_with fail | skip)
  try rw [← S2.out.2.1]
  clear b2
  go_wp2_with fail
  refine (rtmul_any u r3 _ HU2.out Z2.out).mono ?_; rintro e w' ⟨rfl, rfl⟩; go_wp2_with fail
  refine (rtdiv_any (mulT u r3) 12 _ (by have := S3.out.1; omega) (by decide) (by decide)).mono ?_
  rintro e w' ⟨rfl, rfl⟩
  rw [D3.out]
  have b3 := S3.out.2.2
  (first | go_wp2_with fail | skip)
  try rw [← S3.out.2.1]
  clear b3
  go_wp2_with fail
  refine (rtmul_any u r4 _ HU2.out Z3.out).mono ?_; rintro e w' ⟨rfl, rfl⟩; go_wp2_with fail
  refine (rtdiv_any (mulT u r4) 2 _ (by have := S4.out.1; omega) (by decide) (by decide)).mono ?_
  rintro e w' ⟨rfl, rfl⟩
  rw [D4.out]
  have b4 := S4.out.2.2
  (first | go_wp2_with fail | skip)
  try rw [← S4.out.2.1]
  clear b4
  skip
  have hz := hm2.out
  have hz2 := Z4.out
  go_wp2
  go_ret
  exact ⟨ret_int (by rw [HY2.out]; omega), rfl⟩
theorem tquarter_any (b : Nat) (w : World) (hb : b ≤ 32400000) :
    Calls Tryz.prog 82 #[.int .i64 (b : Int)] w fun e w' => e = .returned (.int .i64 (quaT b : Int)) ∧ w = w' := by
  by_cases h : b ≤ 16200000
  · have HQ : Hid (quaT b = sinT b) := if_pos h
    have H := Lib.hid h
    have h1 : (b : Int) ≤ 16200000 := by omega
    clear h hb
    go_enter Tryz.func82, Tryz.ntmps82
    go_wp2_with fail
    refine (tsine_any b _ H.out).mono ?_
    rintro e w' ⟨rfl, rfl⟩
    go_wp2
    go_ret
    exact ⟨ret_int (by rw [HQ.out]), rfl⟩
  · have HQ : Hid (quaT b = cosT (32400000 - b)) := if_neg h
    obtain ⟨c, hc⟩ : ∃ c, 32400000 - b = c := ⟨_, rfl⟩
    have h1 : (16200000 : Int) < (b : Int) := by omega
    have h2 : (b : Int) ≤ 32400000 := by omega
    have HC : Hid ((32400000 : Int) - (b : Int) = (c : Int)) := by unfold Hid; omega
    have HL : Hid (c ≤ 16200000) := by unfold Hid; omega
    rw [hc] at HQ
    clear h hb hc
    go_enter Tryz.func82, Tryz.ntmps82
    go_wp2_with fail
    rw [HC.out]
    refine (tcosine_any c _ HL.out).mono ?_
    rintro e w' ⟨rfl, rfl⟩
    go_wp2
    go_ret
    exact ⟨ret_int (by rw [HQ.out]), rfl⟩
theorem rtquarter_any (b : Nat) (w : World) (hb : b ≤ 32400000) :
    Calls Tryz.prog 103 #[.int .i64 (b : Int)] w fun e w' => e = .returned (.int .i64 (quaT b : Int)) ∧ w = w' := by
  by_cases h : b ≤ 16200000
  · have HQ : Hid (quaT b = sinT b) := if_pos h
    have H := Lib.hid h
    have h1 : (b : Int) ≤ 16200000 := by omega
    clear h hb
    go_enter Tryz.func103, Tryz.ntmps103
    go_wp2_with fail
    refine (rtsine_any b _ H.out).mono ?_
    rintro e w' ⟨rfl, rfl⟩
    go_wp2
    go_ret
    exact ⟨ret_int (by rw [HQ.out]), rfl⟩
  · have HQ : Hid (quaT b = cosT (32400000 - b)) := if_neg h
    obtain ⟨c, hc⟩ : ∃ c, 32400000 - b = c := ⟨_, rfl⟩
    have h1 : (16200000 : Int) < (b : Int) := by omega
    have h2 : (b : Int) ≤ 32400000 := by omega
    have HC : Hid ((32400000 : Int) - (b : Int) = (c : Int)) := by unfold Hid; omega
    have HL : Hid (c ≤ 16200000) := by unfold Hid; omega
    rw [hc] at HQ
    clear h hb hc
    go_enter Tryz.func103, Tryz.ntmps103
    go_wp2_with fail
    rw [HC.out]
    refine (rtcosine_any c _ HL.out).mono ?_
    rintro e w' ⟨rfl, rfl⟩
    go_wp2
    go_ret
    exact ⟨ret_int (by rw [HQ.out]), rfl⟩
theorem sinN_ways (b : Nat) (h : b < 129600000) :
    (b ≤ 32400000 ∧ Hid (sinN b = (quaT b : Int))) ∨ (32400000 < b ∧ b ≤ 64800000 ∧ Hid (sinN b = (quaT (64800000 - b) : Int))) ∨
    (64800000 < b ∧ b ≤ 97200000 ∧ Hid (sinN b = -(quaT (b - 64800000) : Int))) ∨ (97200000 < b ∧ Hid (sinN b = -(quaT (129600000 - b) : Int))) := by
  unfold sinN Hid
  by_cases h1 : b ≤ 32400000
  · exact .inl ⟨h1, if_pos h1⟩
  · by_cases h2 : b ≤ 64800000
    · exact .inr (.inl ⟨by omega, h2, by rw [if_neg h1, if_pos h2]⟩)
    · by_cases h3 : b ≤ 97200000
      · exact .inr (.inr (.inl ⟨by omega, h3, by rw [if_neg h1, if_neg h2, if_pos h3]⟩))
      · exact .inr (.inr (.inr ⟨by omega, by rw [if_neg h1, if_neg h2, if_neg h3]⟩))
set_option maxHeartbeats 1000000 in
theorem tSin_any (a : Int) (w : World) (h1 : -9223372036854775808 ≤ a) (h2 : a ≤ 9223372036854775807) :
    Calls Tryz.prog 50 #[.int .i64 a] w fun e w' => e = .returned (.int .i64 (sinZ a)) ∧ w = w' := by
  have HN := Lib.hid (norm_any a w h1 h2)
  have hb := nrmN_lt a
  have HZ : Hid (sinZ a = sinN (nrmN a)) := rfl
  obtain ⟨b, hbb⟩ : ∃ b, nrmN a = b := ⟨_, rfl⟩
  rw [hbb] at HN hb HZ
  clear hbb h1 h2
  rcases sinN_ways b hb with ⟨g1, hs⟩ | ⟨g1, g2, hs⟩ | ⟨g1, g2, hs⟩ | ⟨g1, hs⟩
  · have H := Lib.hid g1
    have g : (b : Int) ≤ 32400000 := by omega
    clear g1 hb
    go_enter Tryz.func50, Tryz.ntmps50
    go_wp2_with fail
    refine HN.out.mono ?_
    rintro e w' ⟨rfl, rfl⟩
    go_wp2_with fail
    refine (tquarter_any b _ H.out).mono ?_
    rintro e w' ⟨rfl, rfl⟩
    go_wp2
    go_ret
    exact ⟨ret_int (by rw [HZ.out, hs.out]), rfl⟩
  · obtain ⟨c, hc⟩ : ∃ c : Nat, (64800000 : Int) - (b : Int) = (c : Int) := ⟨((64800000 : Int) - (b : Int)).toNat, by omega⟩
    have HC := Lib.hid hc
    have HS : Hid (sinN b = (if 1 = 1 then (quaT c : Int) else -(quaT c : Int))) := by
      unfold Hid
      rw [hs.out]
      first
        | rw [if_pos (by omega), show 64800000 - b = c by omega]
        | rw [if_neg (by omega), show b - 64800000 = c by omega]
        | rw [if_neg (by omega), show 129600000 - b = c by omega]
    have HL : Hid (c ≤ 32400000) := by unfold Hid; omega
    have g3 : (32400000 : Int) < (b : Int) := by omega
    have g4 : (b : Int) ≤ 64800000 := by omega
    clear g1 hb hc hs
    try clear g2
    go_enter Tryz.func50, Tryz.ntmps50
    go_wp2_with fail
    refine HN.out.mono ?_
    rintro e w' ⟨rfl, rfl⟩
    go_wp2_with fail
    rw [HC.out]
    refine (tquarter_any c _ HL.out).mono ?_
    rintro e w' ⟨rfl, rfl⟩
    skip
    go_wp2
    go_ret
    exact ⟨ret_int (by rw [HZ.out, HS.out]; rfl), rfl⟩
  · obtain ⟨c, hc⟩ : ∃ c : Nat, (b : Int) - 64800000 = (c : Int) := ⟨((b : Int) - 64800000).toNat, by omega⟩
    have HC := Lib.hid hc
    have HS : Hid (sinN b = (if 2 = 1 then (quaT c : Int) else -(quaT c : Int))) := by
      unfold Hid
      rw [hs.out]
      first
        | rw [if_pos (by omega), show 64800000 - b = c by omega]
        | rw [if_neg (by omega), show b - 64800000 = c by omega]
        | rw [if_neg (by omega), show 129600000 - b = c by omega]
    have HL : Hid (c ≤ 32400000) := by unfold Hid; omega
    have g3 : (64800000 : Int) < (b : Int) := by omega
    have g4 : (b : Int) ≤ 97200000 := by omega
    clear g1 hb hc hs
    try clear g2
    go_enter Tryz.func50, Tryz.ntmps50
    go_wp2_with fail
    refine HN.out.mono ?_
    rintro e w' ⟨rfl, rfl⟩
    go_wp2_with fail
    rw [HC.out]
    refine (tquarter_any c _ HL.out).mono ?_
    rintro e w' ⟨rfl, rfl⟩
    have hq : (quaT c : Int) ≤ 1073741824 := by have := quaT_le c; omega
    go_wp2
    go_ret
    exact ⟨ret_int (by rw [HZ.out, HS.out]; rfl), rfl⟩
  · obtain ⟨c, hc⟩ : ∃ c : Nat, (129600000 : Int) - (b : Int) = (c : Int) := ⟨((129600000 : Int) - (b : Int)).toNat, by omega⟩
    have HC := Lib.hid hc
    have HS : Hid (sinN b = (if 3 = 1 then (quaT c : Int) else -(quaT c : Int))) := by
      unfold Hid
      rw [hs.out]
      first
        | rw [if_pos (by omega), show 64800000 - b = c by omega]
        | rw [if_neg (by omega), show b - 64800000 = c by omega]
        | rw [if_neg (by omega), show 129600000 - b = c by omega]
    have HL : Hid (c ≤ 32400000) := by unfold Hid; omega
    have g3 : (97200000 : Int) < (b : Int) := by omega
    have g4 : (b : Int) ≤ 129600000 := by omega
    clear g1 hb hc hs
    try clear g2
    go_enter Tryz.func50, Tryz.ntmps50
    go_wp2_with fail
    refine HN.out.mono ?_
    rintro e w' ⟨rfl, rfl⟩
    go_wp2_with fail
    rw [HC.out]
    refine (tquarter_any c _ HL.out).mono ?_
    rintro e w' ⟨rfl, rfl⟩
    have hq : (quaT c : Int) ≤ 1073741824 := by have := quaT_le c; omega
    go_wp2
    go_ret
    exact ⟨ret_int (by rw [HZ.out, HS.out]; rfl), rfl⟩
set_option maxHeartbeats 1000000 in
theorem rtSin_any (a : Int) (w : World) (h1 : -9223372036854775808 ≤ a) (h2 : a ≤ 9223372036854775807) :
    Calls Tryz.prog 78 #[.int .i64 a] w fun e w' => e = .returned (.int .i64 (sinZ a)) ∧ w = w' := by
  have HN := Lib.hid (rnorm_any a w h1 h2)
  have hb := nrmN_lt a
  have HZ : Hid (sinZ a = sinN (nrmN a)) := rfl
  obtain ⟨b, hbb⟩ : ∃ b, nrmN a = b := ⟨_, rfl⟩
  rw [hbb] at HN hb HZ
  clear hbb h1 h2
  rcases sinN_ways b hb with ⟨g1, hs⟩ | ⟨g1, g2, hs⟩ | ⟨g1, g2, hs⟩ | ⟨g1, hs⟩
  · have H := Lib.hid g1
    have g : (b : Int) ≤ 32400000 := by omega
    clear g1 hb
    go_enter Tryz.func78, Tryz.ntmps78
    go_wp2_with fail
    refine HN.out.mono ?_
    rintro e w' ⟨rfl, rfl⟩
    go_wp2_with fail
    refine (rtquarter_any b _ H.out).mono ?_
    rintro e w' ⟨rfl, rfl⟩
    go_wp2
    go_ret
    exact ⟨ret_int (by rw [HZ.out, hs.out]), rfl⟩
  · obtain ⟨c, hc⟩ : ∃ c : Nat, (64800000 : Int) - (b : Int) = (c : Int) := ⟨((64800000 : Int) - (b : Int)).toNat, by omega⟩
    have HC := Lib.hid hc
    have HS : Hid (sinN b = (if 1 = 1 then (quaT c : Int) else -(quaT c : Int))) := by
      unfold Hid
      rw [hs.out]
      first
        | rw [if_pos (by omega), show 64800000 - b = c by omega]
        | rw [if_neg (by omega), show b - 64800000 = c by omega]
        | rw [if_neg (by omega), show 129600000 - b = c by omega]
    have HL : Hid (c ≤ 32400000) := by unfold Hid; omega
    have g3 : (32400000 : Int) < (b : Int) := by omega
    have g4 : (b : Int) ≤ 64800000 := by omega
    clear g1 hb hc hs
    try clear g2
    go_enter Tryz.func78, Tryz.ntmps78
    go_wp2_with fail
    refine HN.out.mono ?_
    rintro e w' ⟨rfl, rfl⟩
    go_wp2_with fail
    rw [HC.out]
    refine (rtquarter_any c _ HL.out).mono ?_
    rintro e w' ⟨rfl, rfl⟩
    skip
    go_wp2
    go_ret
    exact ⟨ret_int (by rw [HZ.out, HS.out]; rfl), rfl⟩
  · obtain ⟨c, hc⟩ : ∃ c : Nat, (b : Int) - 64800000 = (c : Int) := ⟨((b : Int) - 64800000).toNat, by omega⟩
    have HC := Lib.hid hc
    have HS : Hid (sinN b = (if 2 = 1 then (quaT c : Int) else -(quaT c : Int))) := by
      unfold Hid
      rw [hs.out]
      first
        | rw [if_pos (by omega), show 64800000 - b = c by omega]
        | rw [if_neg (by omega), show b - 64800000 = c by omega]
        | rw [if_neg (by omega), show 129600000 - b = c by omega]
    have HL : Hid (c ≤ 32400000) := by unfold Hid; omega
    have g3 : (64800000 : Int) < (b : Int) := by omega
    have g4 : (b : Int) ≤ 97200000 := by omega
    clear g1 hb hc hs
    try clear g2
    go_enter Tryz.func78, Tryz.ntmps78
    go_wp2_with fail
    refine HN.out.mono ?_
    rintro e w' ⟨rfl, rfl⟩
    go_wp2_with fail
    rw [HC.out]
    refine (rtquarter_any c _ HL.out).mono ?_
    rintro e w' ⟨rfl, rfl⟩
    have hq : (quaT c : Int) ≤ 1073741824 := by have := quaT_le c; omega
    go_wp2
    go_ret
    exact ⟨ret_int (by rw [HZ.out, HS.out]; rfl), rfl⟩
  · obtain ⟨c, hc⟩ : ∃ c : Nat, (129600000 : Int) - (b : Int) = (c : Int) := ⟨((129600000 : Int) - (b : Int)).toNat, by omega⟩
    have HC := Lib.hid hc
    have HS : Hid (sinN b = (if 3 = 1 then (quaT c : Int) else -(quaT c : Int))) := by
      unfold Hid
      rw [hs.out]
      first
        | rw [if_pos (by omega), show 64800000 - b = c by omega]
        | rw [if_neg (by omega), show b - 64800000 = c by omega]
        | rw [if_neg (by omega), show 129600000 - b = c by omega]
    have HL : Hid (c ≤ 32400000) := by unfold Hid; omega
    have g3 : (97200000 : Int) < (b : Int) := by omega
    have g4 : (b : Int) ≤ 129600000 := by omega
    clear g1 hb hc hs
    try clear g2
    go_enter Tryz.func78, Tryz.ntmps78
    go_wp2_with fail
    refine HN.out.mono ?_
    rintro e w' ⟨rfl, rfl⟩
    go_wp2_with fail
    rw [HC.out]
    refine (rtquarter_any c _ HL.out).mono ?_
    rintro e w' ⟨rfl, rfl⟩
    have hq : (quaT c : Int) ≤ 1073741824 := by have := quaT_le c; omega
    go_wp2
    go_ret
    exact ⟨ret_int (by rw [HZ.out, HS.out]; rfl), rfl⟩
theorem quarter_nrm : nrmN 32400000 = 32400000 := rfl
theorem tCos_any (a : Int) (w : World) (h1 : -9223372036854775808 ≤ a) (h2 : a ≤ 9223372036854775807) :
    Calls Tryz.prog 49 #[.int .i64 a] w fun e w' => e = .returned (.int .i64 (cosZ a)) ∧ w = w' := by
  have HC : Hid (cosZ a = sinZ (nrmN ((nrmN a : Int) + (nrmN 32400000 : Int)) : Int)) := by
    unfold Hid cosZ
    unfold sinZ
    rw [nrmN_small (nrmN_lt _), quarter_nrm]; rfl
  have HB := Lib.hid (nrmN_lt ((nrmN a : Int) + (nrmN 32400000 : Int)))
  go_enter Tryz.func49, Tryz.ntmps49
  go_wp2_with fail
  refine (turn_any a 32400000 _ h1 h2 (by omega) (by omega)).mono ?_
  rintro e w' ⟨rfl, rfl⟩
  go_wp2_with fail
  refine (tSin_any _ _ (by omega) (by have := HB.out; omega)).mono ?_
  rintro e w' ⟨rfl, rfl⟩
  go_wp2
  go_ret
  exact ⟨ret_int HC.out.symm, rfl⟩
theorem rtCos_any (a : Int) (w : World) (h1 : -9223372036854775808 ≤ a) (h2 : a ≤ 9223372036854775807) :
    Calls Tryz.prog 76 #[.int .i64 a] w fun e w' => e = .returned (.int .i64 (cosZ a)) ∧ w = w' := by
  have HC : Hid (cosZ a = sinZ (nrmN ((nrmN a : Int) + (nrmN 32400000 : Int)) : Int)) := by
    unfold Hid cosZ
    unfold sinZ
    rw [nrmN_small (nrmN_lt _), quarter_nrm]; rfl
  have HB := Lib.hid (nrmN_lt ((nrmN a : Int) + (nrmN 32400000 : Int)))
  go_enter Tryz.func76, Tryz.ntmps76
  go_wp2_with fail
  refine (rturn_any a 32400000 _ h1 h2 (by omega) (by omega)).mono ?_
  rintro e w' ⟨rfl, rfl⟩
  go_wp2_with fail
  refine (rtSin_any _ _ (by omega) (by have := HB.out; omega)).mono ?_
  rintro e w' ⟨rfl, rfl⟩
  go_wp2
  go_ret
  exact ⟨ret_int HC.out.symm, rfl⟩
end Go.Proofs.YteojggbmkppjoaaGreatDoor
namespace Go.Proofs.YteojggbmkppjoaaGreatDoor
open Go.RowKit
set_option linter.unusedVariables false
set_option linter.unusedSimpArgs false

theorem abs_any (x : Int) (w : World) (h1 : -4611686018427387904 ≤ x) (h2 : x ≤ 4611686018427387904) :
    Calls Tryz.prog 24 #[.int .i64 x] w fun e w' => e = .returned (.int .i64 (x.natAbs : Int)) ∧ w = w' := by
  have e1 : (x == -9223372036854775808) = false := beq_eq_false_iff_ne.2 (by omega)
  by_cases h0 : x < 0
  · have HX : Hid (-x = (x.natAbs : Int)) := by unfold Hid; omega
    go_enter Tryz.func24, Tryz.ntmps24
    go_wp2
    go_ret
    exact ⟨ret_int HX.out, rfl⟩
  · have HX : Hid (x = (x.natAbs : Int)) := by unfold Hid; omega
    have h3 : 0 ≤ x := by omega
    go_enter Tryz.func24, Tryz.ntmps24
    go_wp2
    go_ret
    exact ⟨ret_int HX.out, rfl⟩
theorem tout_any (x : Int) (w : World) (h1 : -2147483647 ≤ x) (h2 : x ≤ 2147483647) :
    Calls Tryz.prog 51 #[.int .i64 x] w fun e w' => e = .returned (.bool false) ∧ w = w' := by
  have d1 : decide (2147483647 < x) = false := decide_eq_false (by omega)
  have d2 : decide (x < -2147483647) = false := decide_eq_false (by omega)
  go_enter Tryz.func51, Tryz.ntmps51
  go_wp2
  go_ret
  exact ⟨rfl, rfl⟩
theorem rtout_any (x : Int) (w : World) (h1 : -2147483647 ≤ x) (h2 : x ≤ 2147483647) :
    Calls Tryz.prog 79 #[.int .i64 x] w fun e w' => e = .returned (.bool false) ∧ w = w' := by
  have d1 : decide (2147483647 < x) = false := decide_eq_false (by omega)
  have d2 : decide (x < -2147483647) = false := decide_eq_false (by omega)
  go_enter Tryz.func79, Tryz.ntmps79
  go_wp2
  go_ret
  exact ⟨rfl, rfl⟩
set_option maxHeartbeats 1000000 in
theorem search_any (n g b : Nat) (w : World) (hn : n ≤ 1000000000) (hg : g ≤ n)
    (hclo : ∀ (W : World) (h : Nat), h < n → Below w.heap.size w W → Calls Tryz.prog 84 #[.int .i64 (h : Int), .pointer (some ⟨b, 0, none⟩)] W fun e w' => e = .returned (.bool (decide (g ≤ h))) ∧ Below W.heap.size W w') :
    Calls Tryz.prog 83 #[.int .i64 (n : Int), .func (.func 84) #[] #[.pointer (some ⟨b, 0, none⟩)]] w fun e w' => e = .returned (.int .i64 (g : Int)) ∧ Below w.heap.size w w' := by
  have HC := Lib.hid hclo
  clear hclo
  go_enter Tryz.func83, Tryz.ntmps83
  go_wp2_with fail
  go_loopw [5, 6] (fun i j wr => ∃ x y : Nat, x ≤ g ∧ g ≤ y ∧ y ≤ n ∧ i = .int .i64 (x : Int) ∧ j = .int .i64 (y : Int) ∧ Below w.heap.size w wr) (fun i j _ => (intOf j).toNat - (intOf i).toNat)
  case atStart => exact ⟨0, n, Nat.zero_le _, hg, Nat.le_refl _, rfl, rfl, Below.refl _ _⟩
  case round =>
    obtain ⟨x, y, hx, hy, hyn, rfl, rfl, hbr⟩ := hrel
    by_cases hlt : x < y
    · obtain ⟨m, hm⟩ : ∃ m, (x + y) / 2 = m := ⟨_, rfl⟩
      have HM : Hid (((x : Int) + (y : Int)) / 2 = (m : Int)) := by unfold Hid; omega
      have hm1 : x ≤ m := by omega
      have hm2 : m < y := by omega
      clear hm
      go_wp2_with fail
      rw [HM.out]
      by_cases hgm : g ≤ m
      · have HD : Hid (decide (g ≤ m) = true) := decide_eq_true hgm
        refine (HC.out _ m (by omega) hbr).mono ?_
        rintro e w2 ⟨rfl, hb2⟩
        rw [HD.out]
        have HB := hbr.trans (hb2.mono hbr.size)
        clear hb2 hbr
        go_wp2
        go_roundw
        case rel => exact ⟨x, m, hx, hgm, by omega, rfl, rfl, HB⟩
        case measure => simp [intOf]; omega
      · have HD : Hid (decide (g ≤ m) = false) := decide_eq_false hgm
        refine (HC.out _ m (by omega) hbr).mono ?_
        rintro e w2 ⟨rfl, hb2⟩
        rw [HD.out]
        have HB := hbr.trans (hb2.mono hbr.size)
        clear hb2 hbr
        go_wp2
        go_roundw
        case rel => exact ⟨m + 1, y, by omega, hy, hyn, by go_num, rfl, HB⟩
        case measure => simp [intOf]; omega
    · have hxy : x = g := by omega
      have hni : ¬ ((x : Int) < (y : Int)) := by omega
      clear hlt
      go_wp2
      go_ret
      exact ⟨ret_int (by omega), hbr⟩
/-- the products that the search compares -/
theorem sin_prod (c : Nat) (m : Int) (h0 : 0 ≤ m) (h1 : m ≤ 2147483648) : (-2305843009213693952 ≤ sinZ (c : Int) * m ∧ sinZ (c : Int) * m ≤ 2305843009213693952) ∧ (-2305843009213693952 ≤ cosZ (c : Int) * m ∧ cosZ (c : Int) * m ≤ 2305843009213693952) := by
  have a := sinZ_bd (c : Int)
  have b := cosZ_bd (c : Int)
  exact ⟨mul_bd (A := 1073741824) (B := 2147483648) a.1 a.2 (by omega) h1, mul_bd (A := 1073741824) (B := 2147483648) b.1 b.2 (by omega) h1⟩
/-- a block of one number -/
def NumBox (w : World) (b : Nat) (x : Int) : Prop := w.cell? ⟨b, 0, none⟩ = some (.int .i64 x) ∧ b < w.heap.size
theorem NumBox.below {w w' : World} {b : Nat} {x : Int} (h : NumBox w b x) (hb : Below w.heap.size w w') : NumBox w' b x := ⟨(hb.cell (p := ⟨b, 0, none⟩) h.2).trans h.1, Nat.lt_of_lt_of_le h.2 hb.size⟩
set_option maxHeartbeats 1000000 in
theorem side_test (c bm bn : Nat) (m n : Int) (w : World) (hc : c ≤ 16200000) (hm : NumBox w bm m) (hn : NumBox w bn n) (m0 : 0 ≤ m) (m1 : m ≤ 2147483648) (n0 : 0 ≤ n) (n1 : n ≤ 2147483648) :
    Calls Tryz.prog 53 #[.int .i64 (c : Int), .pointer (some ⟨bm, 0, none⟩), .pointer (some ⟨bn, 0, none⟩)] w fun e w' => e = .returned (.bool (decide (sinZ (c : Int) * m ≤ cosZ (c : Int) * n))) ∧ Below w.heap.size w w' := by
  have c1 := hm.1
  have c2 := hn.1
  have p1 := (sin_prod c m m0 m1).1
  have p2 := (sin_prod c n n0 n1).2
  have HCC : Hid ((c : Int) ≤ 16200000) := by unfold Hid; omega
  clear hm hn m0 m1 n0 n1 hc
  go_enter Tryz.func53, Tryz.ntmps53
  go_wp2_with fail
  go_quiet (first
    | (go_at_call 50; exact Calls.quiet_of_same ((tSin_any (c : Int) _ (by have := HCC.out; omega) (by have := HCC.out; omega)).mono fun _ _ h => ⟨h.1, h.2.symm⟩))
    | (go_at_call 49; exact Calls.quiet_of_same ((tCos_any (c : Int) _ (by have := HCC.out; omega) (by have := HCC.out; omega)).mono fun _ _ h => ⟨h.1, h.2.symm⟩)))
  go_wp2
  go_ret
  exact ⟨rfl, below_drewN' (Below.refl _ _) _⟩
theorem gre_test {m n : Int} {g c : Nat} (h : IsGre m n g) (hc : c < 16200000) : decide (g ≤ c) = !(decide (sinZ ((c + 1 : Nat) : Int) * m ≤ cosZ ((c + 1 : Nat) : Int) * n)) := by
  have := h.2 (c + 1) (by omega) (by omega)
  by_cases hg : g ≤ c
  · rw [decide_eq_true hg, decide_eq_false (by rw [this]; omega)]; rfl
  · rw [decide_eq_false hg, decide_eq_true (by rw [this]; omega)]; rfl
set_option maxHeartbeats 1000000 in
theorem not_test (c b bm bn : Nat) (m n : Int) (g : Nat) (w : World) (hg : IsGre m n g) (hc : c < 16200000) (hb : w.cell? ⟨b, 0, none⟩ = some (.func (.func 53) #[] #[.pointer (some ⟨bm, 0, none⟩), .pointer (some ⟨bn, 0, none⟩)])) (hm : NumBox w bm m) (hn : NumBox w bn n) (m0 : 0 ≤ m) (m1 : m ≤ 2147483648) (n0 : 0 ≤ n) (n1 : n ≤ 2147483648) :
    Calls Tryz.prog 84 #[.int .i64 (c : Int), .pointer (some ⟨b, 0, none⟩)] w fun e w' => e = .returned (.bool (decide (g ≤ c))) ∧ Below w.heap.size w w' := by
  have HG := Lib.hid (gre_test hg hc)
  have HS := Lib.hid (side_test (c + 1) bm bn m n w (by omega) hm hn m0 m1 n0 n1)
  have hci : (c : Int) < 16200000 := by omega
  have HCS : Hid ((c : Int) + 1 = ((c + 1 : Nat) : Int)) := by unfold Hid; omega
  rw [HG.out]
  clear hg hc hm hn m0 m1 n0 n1
  go_enter Tryz.func84, Tryz.ntmps84
  go_wp2_with fail
  rw [HCS.out]
  refine HS.out.mono ?_
  rintro e w2 ⟨rfl, hb2⟩
  obtain ⟨d, hd⟩ : ∃ d, decide (sinZ ((c + 1 : Nat) : Int) * m ≤ cosZ ((c + 1 : Nat) : Int) * n) = d := ⟨_, rfl⟩
  rw [hd]
  have HD := Lib.hid hd
  clear hd
  go_wp2
  go_ret
  exact ⟨ret_bool (by rw [HD.out]), hb2⟩
def FnBox (w : World) (b bm bn : Nat) : Prop := w.cell? ⟨b, 0, none⟩ = some (.func (.func 53) #[] #[.pointer (some ⟨bm, 0, none⟩), .pointer (some ⟨bn, 0, none⟩)]) ∧ b < w.heap.size
theorem FnBox.below {w w' : World} {b bm bn : Nat} (h : FnBox w b bm bn) (hb : Below w.heap.size w w') : FnBox w' b bm bn := ⟨(hb.cell (p := ⟨b, 0, none⟩) h.2).trans h.1, Nat.lt_of_lt_of_le h.2 hb.size⟩
theorem fnBox_new (w : World) (bm bn : Nat) (T : TypeId) : FnBox (w.alloc (.cells #[.func (.func 53) #[] #[.pointer (some ⟨bm, 0, none⟩), .pointer (some ⟨bn, 0, none⟩)]] T)) w.heap.size bm bn :=
  ⟨by rw [World.cell?_alloc_at _ _ _ _ (by simp)]; rfl, by simp⟩
theorem numBox_new (w : World) (x : Int) (T : TypeId) : NumBox (w.alloc (.cells #[.int .i64 x] T)) w.heap.size x :=
  ⟨by rw [World.cell?_alloc_at _ _ _ _ (by simp)]; rfl, by simp⟩
set_option maxHeartbeats 1000000 in
theorem greatest_any (bm bn : Nat) (m n : Int) (g : Nat) (w : World) (hg : IsGre m n g) (hm : NumBox w bm m) (hn : NumBox w bn n) (m0 : 0 ≤ m) (m1 : m ≤ 2147483648) (n0 : 0 ≤ n) (n1 : n ≤ 2147483648) :
    Calls Tryz.prog 52 #[.int .i64 16200000, .func (.func 53) #[] #[.pointer (some ⟨bm, 0, none⟩), .pointer (some ⟨bn, 0, none⟩)]] w fun e w' => e = .returned (.int .i64 (g : Int)) ∧ Below w.heap.size w w' := by
  have K1 : Hid (Below w.heap.size w (w.alloc (.cells #[.func (.func 53) #[] #[.pointer (some ⟨bm, 0, none⟩), .pointer (some ⟨bn, 0, none⟩)]] 82))) := (Below.refl _ _).alloc (Nat.le_refl _) _
  have B1 := Lib.hid (fnBox_new w bm bn 82)
  have M1 := Lib.hid (hm.below K1.out)
  have N1 := Lib.hid (hn.below K1.out)
  have HG := Lib.hid hg
  clear hm hn hg
  go_enter Tryz.func52, Tryz.ntmps52
  go_wp2_with fail
  refine (search_any 16200000 g w.heap.size _ (by omega) HG.out.1 (fun W h hh hb => not_test h _ bm bn m n g W HG.out hh (B1.out.below hb).1 (M1.out.below hb) (N1.out.below hb) m0 m1 n0 n1)).mono ?_
  rintro e w2 ⟨rfl, hb2⟩
  have HB := Lib.hid (Below.then_ K1.out hb2)
  clear hb2
  go_wp2
  go_ret
  exact ⟨rfl, HB.out⟩
theorem atZ_abs (y x a : Int) (ha : a = (x.natAbs : Int)) : atZ y x = (if x < 0 then 64800000 - (if a < y then 32400000 - (gre y a : Int) else (gre a y : Int)) else (if a < y then 32400000 - (gre y a : Int) else (gre a y : Int))) := by
  unfold atZ
  by_cases h : x < 0
  · rw [if_pos h, if_pos h, show a = -x by omega]
  · rw [if_neg h, if_neg h, show a = x by omega]
/-- the ways of an angle: which side is greater, on which side it lies -/
theorem atZ_ways (y x : Int) (hy : 0 ≤ y) (hnz : ¬ (x = 0 ∧ y = 0)) : ∃ (a M N : Int) (g : Nat), a = (x.natAbs : Int) ∧ IsGre M N g ∧ 0 ≤ N ∧ N ≤ M ∧
    ((a < y ∧ M = y ∧ N = a ∧ ((x < 0 ∧ (x == 0) = false ∧ Hid (atZ y x = 64800000 - (32400000 - (g : Int)))) ∨ (0 < x ∧ (x == 0) = false ∧ Hid (atZ y x = 32400000 - (g : Int))) ∨ (x = 0 ∧ (y == 0) = false ∧ Hid (atZ y x = 32400000 - (g : Int))))) ∨
     (y ≤ a ∧ M = a ∧ N = y ∧ (x == 0) = false ∧ ((x < 0 ∧ Hid (atZ y x = 64800000 - (g : Int))) ∨ (0 < x ∧ Hid (atZ y x = (g : Int)))))) := by
  have ha := atZ_abs y x _ rfl
  by_cases h : (x.natAbs : Int) < y
  · refine ⟨_, y, (x.natAbs : Int), gre y (x.natAbs : Int), rfl, gre_spec (by omega) (by omega), by omega, by omega, .inl ⟨h, rfl, rfl, ?_⟩⟩
    rw [if_pos h] at ha
    by_cases hx : x < 0
    · rw [if_pos hx] at ha
      exact .inl ⟨hx, beq_eq_false_iff_ne.2 (by omega), ha⟩
    · rw [if_neg hx] at ha
      by_cases hx0 : x = 0
      · exact .inr (.inr ⟨hx0, beq_eq_false_iff_ne.2 (by omega), ha⟩)
      · exact .inr (.inl ⟨by omega, beq_eq_false_iff_ne.2 hx0, ha⟩)
  · refine ⟨_, (x.natAbs : Int), y, gre (x.natAbs : Int) y, rfl, gre_spec (by omega) (by omega), by omega, by omega, .inr ⟨by omega, rfl, rfl, beq_eq_false_iff_ne.2 (by omega), ?_⟩⟩
    rw [if_neg h] at ha
    by_cases hx : x < 0
    · rw [if_pos hx] at ha
      exact .inl ⟨hx, ha⟩
    · rw [if_neg hx] at ha
      exact .inr ⟨by omega, ha⟩
def AtPost (r : Int) (w : World) (e : Ending) (w' : World) : Prop := e = .returned (.tuple #[.int .i64 r, .int .i64 0]) ∧ Below w.heap.size w w'
theorem AtPost.mk {r s : Int} {w w' : World} (h : r = s) (hb : Below w.heap.size w w') : AtPost r w (.returned (.tuple #[.int .i64 s, .int .i64 0])) w' := by subst h; exact ⟨rfl, hb⟩
set_option maxRecDepth 100000 in
set_option maxHeartbeats 2000000 in
theorem atan_any (y x : Int) (w : World) (hy0 : 0 ≤ y) (hy : y ≤ 2147483647) (hx1 : -2147483647 ≤ x) (hx2 : x ≤ 2147483647) (hnz : ¬ (x = 0 ∧ y = 0)) :
    Calls Tryz.prog 25 #[.int .i64 y, .int .i64 x] w (AtPost (atZ y x) w) := by
  obtain ⟨a, M, N, g, ha, hg, hN0, hNM, hw⟩ := atZ_ways y x hy0 hnz
  have HG := Lib.hid hg
  have hgb : (g : Int) ≤ 16200000 := by have := hg.1; omega
  have HA : Hid ((x.natAbs : Int) = a) := ha.symm
  have HYA : Hid ((y.natAbs : Int) = y) := by unfold Hid; omega
  have ha0 : 0 ≤ a := by omega
  have ham : a ≤ 2147483647 := by omega
  have HB := Lib.hid (show -2147483647 ≤ x ∧ x ≤ 2147483647 from ⟨hx1, hx2⟩)
  clear ha hg hnz
  rcases hw with ⟨h1, rfl, rfl, ⟨h2, h3, hr⟩ | ⟨h2, h3, hr⟩ | ⟨rfl, h3, hr⟩⟩ | ⟨h1, rfl, rfl, h3, ⟨h2, hr⟩ | ⟨h2, hr⟩⟩
  case inl.inl =>
    have K1 : Hid (Below w.heap.size w ((w.alloc (.cells #[.int .i64 M] 2)).alloc (.cells #[.int .i64 N] 2))) := ((Below.refl _ _).alloc (Nat.le_refl _) _).alloc (by simp) _
    have M1 : Hid (NumBox ((w.alloc (.cells #[.int .i64 M] 2)).alloc (.cells #[.int .i64 N] 2)) w.heap.size M) := (numBox_new w M 2).below ((Below.refl _ _).alloc (Nat.le_refl _) _)
    have N1 : Hid (NumBox ((w.alloc (.cells #[.int .i64 M] 2)).alloc (.cells #[.int .i64 N] 2)) (w.heap.size + 1) N) := by
      have := numBox_new (w.alloc (.cells #[.int .i64 M] 2)) N 2
      rw [World.size_alloc] at this
      exact this
    go_enter Tryz.func25, Tryz.ntmps25
    go_wp2_with fail
    refine (tout_any _ _ (by omega) (by omega)).mono ?_
    rintro e w' ⟨rfl, rfl⟩
    go_wp2_with fail
    refine (tout_any _ _ HB.out.1 HB.out.2).mono ?_
    rintro e w' ⟨rfl, rfl⟩
    go_wp2_with fail
    refine (abs_any _ _ (by omega) (by omega)).mono ?_
    rintro e w' ⟨rfl, rfl⟩
    rw [HA.out]
    go_wp2_with fail
    refine (abs_any _ _ (by omega) (by omega)).mono ?_
    rintro e w' ⟨rfl, rfl⟩
    rw [HYA.out]
    have hm1 : max M N = M := by omega
    have hm3 : min M N = N := by omega
    have hm2 : max N M = M := by omega
    have hm4 : min N M = N := by omega
    go_wp2_with fail
    clear hm1 hm3 hm2 hm4
    refine (greatest_any _ _ M N g _ HG.out M1.out N1.out (by omega) (by omega) (by omega) (by omega)).mono ?_
    rintro e w2 ⟨rfl, hb2⟩
    have HB2 := Lib.hid (Below.then_ K1.out hb2)
    clear hb2 HG M1 N1 K1
    go_wp2
    go_ret2
    exact AtPost.mk hr.out HB2.out
  case inl.inr.inl =>
    have K1 : Hid (Below w.heap.size w ((w.alloc (.cells #[.int .i64 M] 2)).alloc (.cells #[.int .i64 N] 2))) := ((Below.refl _ _).alloc (Nat.le_refl _) _).alloc (by simp) _
    have M1 : Hid (NumBox ((w.alloc (.cells #[.int .i64 M] 2)).alloc (.cells #[.int .i64 N] 2)) w.heap.size M) := (numBox_new w M 2).below ((Below.refl _ _).alloc (Nat.le_refl _) _)
    have N1 : Hid (NumBox ((w.alloc (.cells #[.int .i64 M] 2)).alloc (.cells #[.int .i64 N] 2)) (w.heap.size + 1) N) := by
      have := numBox_new (w.alloc (.cells #[.int .i64 M] 2)) N 2
      rw [World.size_alloc] at this
      exact this
    go_enter Tryz.func25, Tryz.ntmps25
    go_wp2_with fail
    refine (tout_any _ _ (by omega) (by omega)).mono ?_
    rintro e w' ⟨rfl, rfl⟩
    go_wp2_with fail
    refine (tout_any _ _ HB.out.1 HB.out.2).mono ?_
    rintro e w' ⟨rfl, rfl⟩
    go_wp2_with fail
    refine (abs_any _ _ (by omega) (by omega)).mono ?_
    rintro e w' ⟨rfl, rfl⟩
    rw [HA.out]
    go_wp2_with fail
    refine (abs_any _ _ (by omega) (by omega)).mono ?_
    rintro e w' ⟨rfl, rfl⟩
    rw [HYA.out]
    have hm1 : max M N = M := by omega
    have hm3 : min M N = N := by omega
    have hm2 : max N M = M := by omega
    have hm4 : min N M = N := by omega
    go_wp2_with fail
    clear hm1 hm3 hm2 hm4
    refine (greatest_any _ _ M N g _ HG.out M1.out N1.out (by omega) (by omega) (by omega) (by omega)).mono ?_
    rintro e w2 ⟨rfl, hb2⟩
    have HB2 := Lib.hid (Below.then_ K1.out hb2)
    clear hb2 HG M1 N1 K1
    go_wp2
    go_ret2
    exact AtPost.mk hr.out HB2.out
  case inl.inr.inr =>
    have K1 : Hid (Below w.heap.size w ((w.alloc (.cells #[.int .i64 M] 2)).alloc (.cells #[.int .i64 N] 2))) := ((Below.refl _ _).alloc (Nat.le_refl _) _).alloc (by simp) _
    have M1 : Hid (NumBox ((w.alloc (.cells #[.int .i64 M] 2)).alloc (.cells #[.int .i64 N] 2)) w.heap.size M) := (numBox_new w M 2).below ((Below.refl _ _).alloc (Nat.le_refl _) _)
    have N1 : Hid (NumBox ((w.alloc (.cells #[.int .i64 M] 2)).alloc (.cells #[.int .i64 N] 2)) (w.heap.size + 1) N) := by
      have := numBox_new (w.alloc (.cells #[.int .i64 M] 2)) N 2
      rw [World.size_alloc] at this
      exact this
    go_enter Tryz.func25, Tryz.ntmps25
    go_wp2_with fail
    refine (tout_any _ _ (by omega) (by omega)).mono ?_
    rintro e w' ⟨rfl, rfl⟩
    go_wp2_with fail
    refine (tout_any _ _ HB.out.1 HB.out.2).mono ?_
    rintro e w' ⟨rfl, rfl⟩
    go_wp2_with fail
    refine (abs_any _ _ (by omega) (by omega)).mono ?_
    rintro e w' ⟨rfl, rfl⟩
    rw [HA.out]
    go_wp2_with fail
    refine (abs_any _ _ (by omega) (by omega)).mono ?_
    rintro e w' ⟨rfl, rfl⟩
    rw [HYA.out]
    have hm1 : max M N = M := by omega
    have hm3 : min M N = N := by omega
    have hm2 : max N M = M := by omega
    have hm4 : min N M = N := by omega
    go_wp2_with fail
    clear hm1 hm3 hm2 hm4
    refine (greatest_any _ _ M N g _ HG.out M1.out N1.out (by omega) (by omega) (by omega) (by omega)).mono ?_
    rintro e w2 ⟨rfl, hb2⟩
    have HB2 := Lib.hid (Below.then_ K1.out hb2)
    clear hb2 HG M1 N1 K1
    go_wp2
    go_ret2
    exact AtPost.mk hr.out HB2.out
  case inr.inl =>
    rcases Int.lt_or_eq_of_le h1 with h4 | h4
    · skip
      have K1 : Hid (Below w.heap.size w ((w.alloc (.cells #[.int .i64 M] 2)).alloc (.cells #[.int .i64 N] 2))) := ((Below.refl _ _).alloc (Nat.le_refl _) _).alloc (by simp) _
      have M1 : Hid (NumBox ((w.alloc (.cells #[.int .i64 M] 2)).alloc (.cells #[.int .i64 N] 2)) w.heap.size M) := (numBox_new w M 2).below ((Below.refl _ _).alloc (Nat.le_refl _) _)
      have N1 : Hid (NumBox ((w.alloc (.cells #[.int .i64 M] 2)).alloc (.cells #[.int .i64 N] 2)) (w.heap.size + 1) N) := by
        have := numBox_new (w.alloc (.cells #[.int .i64 M] 2)) N 2
        rw [World.size_alloc] at this
        exact this
      go_enter Tryz.func25, Tryz.ntmps25
      go_wp2_with fail
      refine (tout_any _ _ (by omega) (by omega)).mono ?_
      rintro e w' ⟨rfl, rfl⟩
      go_wp2_with fail
      refine (tout_any _ _ HB.out.1 HB.out.2).mono ?_
      rintro e w' ⟨rfl, rfl⟩
      go_wp2_with fail
      refine (abs_any _ _ (by omega) (by omega)).mono ?_
      rintro e w' ⟨rfl, rfl⟩
      rw [HA.out]
      go_wp2_with fail
      refine (abs_any _ _ (by omega) (by omega)).mono ?_
      rintro e w' ⟨rfl, rfl⟩
      rw [HYA.out]
      have hm1 : max M N = M := by omega
      have hm3 : min M N = N := by omega
      have hm2 : max N M = M := by omega
      have hm4 : min N M = N := by omega
      go_wp2_with fail
      clear hm1 hm3 hm2 hm4
      refine (greatest_any _ _ M N g _ HG.out M1.out N1.out (by omega) (by omega) (by omega) (by omega)).mono ?_
      rintro e w2 ⟨rfl, hb2⟩
      have HB2 := Lib.hid (Below.then_ K1.out hb2)
      clear hb2 HG M1 N1 K1
      go_wp2
      go_ret2
      exact AtPost.mk hr.out HB2.out
    · subst h4
      have K1 : Hid (Below w.heap.size w ((w.alloc (.cells #[.int .i64 N] 2)).alloc (.cells #[.int .i64 N] 2))) := ((Below.refl _ _).alloc (Nat.le_refl _) _).alloc (by simp) _
      have M1 : Hid (NumBox ((w.alloc (.cells #[.int .i64 N] 2)).alloc (.cells #[.int .i64 N] 2)) w.heap.size N) := (numBox_new w N 2).below ((Below.refl _ _).alloc (Nat.le_refl _) _)
      have N1 : Hid (NumBox ((w.alloc (.cells #[.int .i64 N] 2)).alloc (.cells #[.int .i64 N] 2)) (w.heap.size + 1) N) := by
        have := numBox_new (w.alloc (.cells #[.int .i64 N] 2)) N 2
        rw [World.size_alloc] at this
        exact this
      go_enter Tryz.func25, Tryz.ntmps25
      go_wp2_with fail
      refine (tout_any _ _ (by omega) (by omega)).mono ?_
      rintro e w' ⟨rfl, rfl⟩
      go_wp2_with fail
      refine (tout_any _ _ HB.out.1 HB.out.2).mono ?_
      rintro e w' ⟨rfl, rfl⟩
      go_wp2_with fail
      refine (abs_any _ _ (by omega) (by omega)).mono ?_
      rintro e w' ⟨rfl, rfl⟩
      rw [HA.out]
      go_wp2_with fail
      refine (abs_any _ _ (by omega) (by omega)).mono ?_
      rintro e w' ⟨rfl, rfl⟩
      rw [HYA.out]
      have hm1 : max N N = N := by omega
      have hm3 : min N N = N := by omega
      go_wp2_with fail
      clear hm1 hm3
      refine (greatest_any _ _ N N g _ HG.out M1.out N1.out (by omega) (by omega) (by omega) (by omega)).mono ?_
      rintro e w2 ⟨rfl, hb2⟩
      have HB2 := Lib.hid (Below.then_ K1.out hb2)
      clear hb2 HG M1 N1 K1
      go_wp2
      go_ret2
      exact AtPost.mk hr.out HB2.out
  case inr.inr =>
    rcases Int.lt_or_eq_of_le h1 with h4 | h4
    · skip
      have K1 : Hid (Below w.heap.size w ((w.alloc (.cells #[.int .i64 M] 2)).alloc (.cells #[.int .i64 N] 2))) := ((Below.refl _ _).alloc (Nat.le_refl _) _).alloc (by simp) _
      have M1 : Hid (NumBox ((w.alloc (.cells #[.int .i64 M] 2)).alloc (.cells #[.int .i64 N] 2)) w.heap.size M) := (numBox_new w M 2).below ((Below.refl _ _).alloc (Nat.le_refl _) _)
      have N1 : Hid (NumBox ((w.alloc (.cells #[.int .i64 M] 2)).alloc (.cells #[.int .i64 N] 2)) (w.heap.size + 1) N) := by
        have := numBox_new (w.alloc (.cells #[.int .i64 M] 2)) N 2
        rw [World.size_alloc] at this
        exact this
      go_enter Tryz.func25, Tryz.ntmps25
      go_wp2_with fail
      refine (tout_any _ _ (by omega) (by omega)).mono ?_
      rintro e w' ⟨rfl, rfl⟩
      go_wp2_with fail
      refine (tout_any _ _ HB.out.1 HB.out.2).mono ?_
      rintro e w' ⟨rfl, rfl⟩
      go_wp2_with fail
      refine (abs_any _ _ (by omega) (by omega)).mono ?_
      rintro e w' ⟨rfl, rfl⟩
      rw [HA.out]
      go_wp2_with fail
      refine (abs_any _ _ (by omega) (by omega)).mono ?_
      rintro e w' ⟨rfl, rfl⟩
      rw [HYA.out]
      have hm1 : max M N = M := by omega
      have hm3 : min M N = N := by omega
      have hm2 : max N M = M := by omega
      have hm4 : min N M = N := by omega
      go_wp2_with fail
      clear hm1 hm3 hm2 hm4
      refine (greatest_any _ _ M N g _ HG.out M1.out N1.out (by omega) (by omega) (by omega) (by omega)).mono ?_
      rintro e w2 ⟨rfl, hb2⟩
      have HB2 := Lib.hid (Below.then_ K1.out hb2)
      clear hb2 HG M1 N1 K1
      go_wp2
      go_ret2
      exact AtPost.mk hr.out HB2.out
    · subst h4
      have K1 : Hid (Below w.heap.size w ((w.alloc (.cells #[.int .i64 N] 2)).alloc (.cells #[.int .i64 N] 2))) := ((Below.refl _ _).alloc (Nat.le_refl _) _).alloc (by simp) _
      have M1 : Hid (NumBox ((w.alloc (.cells #[.int .i64 N] 2)).alloc (.cells #[.int .i64 N] 2)) w.heap.size N) := (numBox_new w N 2).below ((Below.refl _ _).alloc (Nat.le_refl _) _)
      have N1 : Hid (NumBox ((w.alloc (.cells #[.int .i64 N] 2)).alloc (.cells #[.int .i64 N] 2)) (w.heap.size + 1) N) := by
        have := numBox_new (w.alloc (.cells #[.int .i64 N] 2)) N 2
        rw [World.size_alloc] at this
        exact this
      go_enter Tryz.func25, Tryz.ntmps25
      go_wp2_with fail
      refine (tout_any _ _ (by omega) (by omega)).mono ?_
      rintro e w' ⟨rfl, rfl⟩
      go_wp2_with fail
      refine (tout_any _ _ HB.out.1 HB.out.2).mono ?_
      rintro e w' ⟨rfl, rfl⟩
      go_wp2_with fail
      refine (abs_any _ _ (by omega) (by omega)).mono ?_
      rintro e w' ⟨rfl, rfl⟩
      rw [HA.out]
      go_wp2_with fail
      refine (abs_any _ _ (by omega) (by omega)).mono ?_
      rintro e w' ⟨rfl, rfl⟩
      rw [HYA.out]
      have hm1 : max N N = N := by omega
      have hm3 : min N N = N := by omega
      go_wp2_with fail
      clear hm1 hm3
      refine (greatest_any _ _ N N g _ HG.out M1.out N1.out (by omega) (by omega) (by omega) (by omega)).mono ?_
      rintro e w2 ⟨rfl, hb2⟩
      have HB2 := Lib.hid (Below.then_ K1.out hb2)
      clear hb2 HG M1 N1 K1
      go_wp2
      go_ret2
      exact AtPost.mk hr.out HB2.out
end Go.Proofs.YteojggbmkppjoaaGreatDoor
namespace Go.Proofs.YteojggbmkppjoaaGreatDoor
open Go.RowKit
set_option linter.unusedVariables false
set_option linter.unusedSimpArgs false

def SideRel (g : Nat) (i j : Value) : Prop := ∃ c d : Nat, c ≤ g ∧ g < d ∧ d ≤ 16200001 ∧ i = .int .i64 (c : Int) ∧ j = .int .i64 (d : Int)
set_option maxRecDepth 100000 in
set_option maxHeartbeats 4000000 in
theorem ratan_any (y x : Int) (w : World) (hy0 : 0 ≤ y) (hy : y ≤ 2147483647) (hx1 : -2147483647 ≤ x) (hx2 : x ≤ 2147483647) (hnz : ¬ (x = 0 ∧ y = 0)) :
    Calls Tryz.prog 46 #[.int .i64 y, .int .i64 x] w (AtPost (atZ y x) w) := by
  obtain ⟨a, M, N, g, ha, hg, hN0, hNM, hw⟩ := atZ_ways y x hy0 hnz
  have HG := Lib.hid hg
  have hgb : (g : Int) ≤ 16200000 := by have := hg.1; omega
  have ha0 : 0 ≤ a := by omega
  have ham : a ≤ 2147483647 := by omega
  have HB := Lib.hid (show -2147483647 ≤ x ∧ x ≤ 2147483647 from ⟨hx1, hx2⟩)
  have HA := Lib.hid ha
  clear ha hg hnz
  rcases hw with ⟨h1, rfl, rfl, ⟨h2, h3, hr⟩ | ⟨h2, h3, hr⟩ | ⟨rfl, h3, hr⟩⟩ | ⟨h1, rfl, rfl, h3, ⟨h2, hr⟩ | ⟨h2, hr⟩⟩
  case inl.inl =>
    have HAX : Hid (-x = N) := by unfold Hid; have := HA.out; omega
    have hn1 : -x < M := by have := HAX.out; omega
    have hy1 : (M == 0) = false := beq_eq_false_iff_ne.2 (by omega)
    go_enter Tryz.func46, Tryz.ntmps46
    go_wp2_with fail
    refine (rtout_any _ _ (by omega) (by omega)).mono ?_
    rintro e w' ⟨rfl, rfl⟩
    go_wp2_with fail
    refine (rtout_any _ _ HB.out.1 HB.out.2).mono ?_
    rintro e w' ⟨rfl, rfl⟩
    have hm1 : max M (-x) = M := by omega
    have hm3 : min M (-x) = -x := by omega
    go_wp2_with fail
    clear hm1 hm3
    try rw [HAX.out]
    go_loop [10, 11] (fun i j => SideRel g i j) (fun i j => (intOf j).toNat - (intOf i).toNat)
    case atStart => exact ⟨0, 16200001, by omega, by have := HG.out.1; omega, by omega, rfl, rfl⟩
    case round =>
      obtain ⟨c, d, hc, hd, hd2, rfl, rfl⟩ := hrel
      have hci : (c : Int) ≤ 16200000 := by omega
      have hdi : (d : Int) ≤ 16200001 := by omega
      by_cases hlt : c + 1 < d
      · obtain ⟨k, hk⟩ : ∃ k, (c + d) / 2 = k := ⟨_, rfl⟩
        have HK : Hid (((c : Int) + (d : Int)) / 2 = (k : Int)) := by unfold Hid; omega
        have hk1 : c < k := by omega
        have hk2 : k < d := by omega
        have hli : (1 : Int) < (d : Int) - (c : Int) := by omega
        have HD2 := Lib.hid hd2
        have hkb : (k : Int) ≤ 16200000 := by omega
        have HT := Lib.hid (HG.out.2 k (by omega) (by omega))
        have P1 := Lib.hid (sin_prod k M (by omega) (by omega)).1
        have P2 := Lib.hid (sin_prod k N (by omega) (by omega)).2
        clear hk hlt hd2
        go_wp2_with fail
        rw [HK.out]
        refine (rtSin_any _ _ (by omega) (by omega)).mono ?_
        rintro e w' ⟨rfl, rfl⟩
        have p1 := P1.out
        go_wp2_with fail
        refine (rtCos_any _ _ (by omega) (by omega)).mono ?_
        rintro e w' ⟨rfl, rfl⟩
        have p2 := P2.out
        by_cases hkg : k ≤ g
        · have ht : sinZ (k : Int) * M ≤ cosZ (k : Int) * N := HT.out.2 hkg
          have HKG := Lib.hid hkg
          clear hkg
          go_wp2
          go_round
          case rel => exact ⟨k, d, HKG.out, hd, HD2.out, rfl, rfl⟩
          case measure => simp [intOf]; omega
        · have ht : decide (sinZ (k : Int) * M ≤ cosZ (k : Int) * N) = false := by
            have := mt HT.out.1 hkg
            rw [decide_eq_false_iff_not]; exact this
          have HKG := Lib.hid hkg
          clear hkg
          go_wp2
          go_round
          case rel => exact ⟨c, k, hc, by have := HKG.out; omega, by have := HD2.out; omega, rfl, rfl⟩
          case measure => simp [intOf]; omega
      · have hli : (d : Int) - (c : Int) ≤ 1 := by omega
        have hcg : c = g := by omega
        subst hcg
        clear hlt HG hd2
        go_wp2
        go_ret2
        exact AtPost.mk hr.out (Below.refl _ _)
  case inl.inr.inl =>
    have HAX : Hid (x = N) := by unfold Hid; have := HA.out; omega
    obtain rfl : x = N := HAX.out
    have hy1 : (M == 0) = false := beq_eq_false_iff_ne.2 (by omega)
    go_enter Tryz.func46, Tryz.ntmps46
    go_wp2_with fail
    refine (rtout_any _ _ (by omega) (by omega)).mono ?_
    rintro e w' ⟨rfl, rfl⟩
    go_wp2_with fail
    refine (rtout_any _ _ HB.out.1 HB.out.2).mono ?_
    rintro e w' ⟨rfl, rfl⟩
    have hm1 : max M x = M := by omega
    have hm3 : min M x = x := by omega
    go_wp2_with fail
    clear hm1 hm3
    skip
    go_loop [10, 11] (fun i j => SideRel g i j) (fun i j => (intOf j).toNat - (intOf i).toNat)
    case atStart => exact ⟨0, 16200001, by omega, by have := HG.out.1; omega, by omega, rfl, rfl⟩
    case round =>
      obtain ⟨c, d, hc, hd, hd2, rfl, rfl⟩ := hrel
      have hci : (c : Int) ≤ 16200000 := by omega
      have hdi : (d : Int) ≤ 16200001 := by omega
      by_cases hlt : c + 1 < d
      · obtain ⟨k, hk⟩ : ∃ k, (c + d) / 2 = k := ⟨_, rfl⟩
        have HK : Hid (((c : Int) + (d : Int)) / 2 = (k : Int)) := by unfold Hid; omega
        have hk1 : c < k := by omega
        have hk2 : k < d := by omega
        have hli : (1 : Int) < (d : Int) - (c : Int) := by omega
        have HD2 := Lib.hid hd2
        have hkb : (k : Int) ≤ 16200000 := by omega
        have HT := Lib.hid (HG.out.2 k (by omega) (by omega))
        have P1 := Lib.hid (sin_prod k M (by omega) (by omega)).1
        have P2 := Lib.hid (sin_prod k x (by omega) (by omega)).2
        clear hk hlt hd2
        go_wp2_with fail
        rw [HK.out]
        refine (rtSin_any _ _ (by omega) (by omega)).mono ?_
        rintro e w' ⟨rfl, rfl⟩
        have p1 := P1.out
        go_wp2_with fail
        refine (rtCos_any _ _ (by omega) (by omega)).mono ?_
        rintro e w' ⟨rfl, rfl⟩
        have p2 := P2.out
        by_cases hkg : k ≤ g
        · have ht : sinZ (k : Int) * M ≤ cosZ (k : Int) * x := HT.out.2 hkg
          have HKG := Lib.hid hkg
          clear hkg
          go_wp2
          go_round
          case rel => exact ⟨k, d, HKG.out, hd, HD2.out, rfl, rfl⟩
          case measure => simp [intOf]; omega
        · have ht : decide (sinZ (k : Int) * M ≤ cosZ (k : Int) * x) = false := by
            have := mt HT.out.1 hkg
            rw [decide_eq_false_iff_not]; exact this
          have HKG := Lib.hid hkg
          clear hkg
          go_wp2
          go_round
          case rel => exact ⟨c, k, hc, by have := HKG.out; omega, by have := HD2.out; omega, rfl, rfl⟩
          case measure => simp [intOf]; omega
      · have hli : (d : Int) - (c : Int) ≤ 1 := by omega
        have hcg : c = g := by omega
        subst hcg
        clear hlt HG hd2
        go_wp2
        go_ret2
        exact AtPost.mk hr.out (Below.refl _ _)
  case inl.inr.inr =>
    obtain rfl : N = 0 := by have := HA.out; omega
    have hy1 : (M == 0) = false := beq_eq_false_iff_ne.2 (by omega)
    go_enter Tryz.func46, Tryz.ntmps46
    go_wp2_with fail
    refine (rtout_any _ _ (by omega) (by omega)).mono ?_
    rintro e w' ⟨rfl, rfl⟩
    go_wp2_with fail
    refine (rtout_any _ _ HB.out.1 HB.out.2).mono ?_
    rintro e w' ⟨rfl, rfl⟩
    have hm1 : max M 0 = M := by omega
    have hm3 : min M 0 = 0 := by omega
    go_wp2_with fail
    clear hm1 hm3
    skip
    go_loop [10, 11] (fun i j => SideRel g i j) (fun i j => (intOf j).toNat - (intOf i).toNat)
    case atStart => exact ⟨0, 16200001, by omega, by have := HG.out.1; omega, by omega, rfl, rfl⟩
    case round =>
      obtain ⟨c, d, hc, hd, hd2, rfl, rfl⟩ := hrel
      have hci : (c : Int) ≤ 16200000 := by omega
      have hdi : (d : Int) ≤ 16200001 := by omega
      by_cases hlt : c + 1 < d
      · obtain ⟨k, hk⟩ : ∃ k, (c + d) / 2 = k := ⟨_, rfl⟩
        have HK : Hid (((c : Int) + (d : Int)) / 2 = (k : Int)) := by unfold Hid; omega
        have hk1 : c < k := by omega
        have hk2 : k < d := by omega
        have hli : (1 : Int) < (d : Int) - (c : Int) := by omega
        have HD2 := Lib.hid hd2
        have hkb : (k : Int) ≤ 16200000 := by omega
        have HT := Lib.hid (HG.out.2 k (by omega) (by omega))
        have P1 := Lib.hid (sin_prod k M (by omega) (by omega)).1
        have P2 := Lib.hid (sin_prod k 0 (by omega) (by omega)).2
        clear hk hlt hd2
        go_wp2_with fail
        rw [HK.out]
        refine (rtSin_any _ _ (by omega) (by omega)).mono ?_
        rintro e w' ⟨rfl, rfl⟩
        have p1 := P1.out
        go_wp2_with fail
        refine (rtCos_any _ _ (by omega) (by omega)).mono ?_
        rintro e w' ⟨rfl, rfl⟩
        have p2 := P2.out
        by_cases hkg : k ≤ g
        · have ht : sinZ (k : Int) * M ≤ cosZ (k : Int) * 0 := HT.out.2 hkg
          have ht0 : sinZ (k : Int) * M ≤ 0 := by omega
          clear ht
          have HKG := Lib.hid hkg
          clear hkg
          go_wp2
          go_round
          case rel => exact ⟨k, d, HKG.out, hd, HD2.out, rfl, rfl⟩
          case measure => simp [intOf]; omega
        · have ht : 0 < sinZ (k : Int) * M := by
            have := mt HT.out.1 hkg
            omega
          have HKG := Lib.hid hkg
          clear hkg
          go_wp2
          go_round
          case rel => exact ⟨c, k, hc, by have := HKG.out; omega, by have := HD2.out; omega, rfl, rfl⟩
          case measure => simp [intOf]; omega
      · have hli : (d : Int) - (c : Int) ≤ 1 := by omega
        have hcg : c = g := by omega
        subst hcg
        clear hlt HG hd2
        go_wp2
        go_ret2
        exact AtPost.mk hr.out (Below.refl _ _)
  case inr.inl =>
    have HAX : Hid (-x = M) := by unfold Hid; have := HA.out; omega
    have hn1 : N ≤ -x := by have := HAX.out; omega
    rcases (show (N == 0) = true ∨ (N == 0) = false by cases (N == 0) <;> simp) with hy1 | hy1
    all_goals
      go_enter Tryz.func46, Tryz.ntmps46
      go_wp2_with fail
      refine (rtout_any _ _ (by omega) (by omega)).mono ?_
      rintro e w' ⟨rfl, rfl⟩
      go_wp2_with fail
      refine (rtout_any _ _ HB.out.1 HB.out.2).mono ?_
      rintro e w' ⟨rfl, rfl⟩
      have hm1 : max N (-x) = -x := by omega
      have hm3 : min N (-x) = N := by omega
      go_wp2_with fail
      clear hm1 hm3
      try rw [HAX.out]
      go_loop [10, 11] (fun i j => SideRel g i j) (fun i j => (intOf j).toNat - (intOf i).toNat)
      case atStart => exact ⟨0, 16200001, by omega, by have := HG.out.1; omega, by omega, rfl, rfl⟩
      case round =>
        obtain ⟨c, d, hc, hd, hd2, rfl, rfl⟩ := hrel
        have hci : (c : Int) ≤ 16200000 := by omega
        have hdi : (d : Int) ≤ 16200001 := by omega
        by_cases hlt : c + 1 < d
        · obtain ⟨k, hk⟩ : ∃ k, (c + d) / 2 = k := ⟨_, rfl⟩
          have HK : Hid (((c : Int) + (d : Int)) / 2 = (k : Int)) := by unfold Hid; omega
          have hk1 : c < k := by omega
          have hk2 : k < d := by omega
          have hli : (1 : Int) < (d : Int) - (c : Int) := by omega
          have HD2 := Lib.hid hd2
          have hkb : (k : Int) ≤ 16200000 := by omega
          have HT := Lib.hid (HG.out.2 k (by omega) (by omega))
          have P1 := Lib.hid (sin_prod k M (by omega) (by omega)).1
          have P2 := Lib.hid (sin_prod k N (by omega) (by omega)).2
          clear hk hlt hd2
          go_wp2_with fail
          rw [HK.out]
          refine (rtSin_any _ _ (by omega) (by omega)).mono ?_
          rintro e w' ⟨rfl, rfl⟩
          have p1 := P1.out
          go_wp2_with fail
          refine (rtCos_any _ _ (by omega) (by omega)).mono ?_
          rintro e w' ⟨rfl, rfl⟩
          have p2 := P2.out
          by_cases hkg : k ≤ g
          · have ht : sinZ (k : Int) * M ≤ cosZ (k : Int) * N := HT.out.2 hkg
            have HKG := Lib.hid hkg
            clear hkg
            go_wp2
            go_round
            case rel => exact ⟨k, d, HKG.out, hd, HD2.out, rfl, rfl⟩
            case measure => simp [intOf]; omega
          · have ht : decide (sinZ (k : Int) * M ≤ cosZ (k : Int) * N) = false := by
              have := mt HT.out.1 hkg
              rw [decide_eq_false_iff_not]; exact this
            have HKG := Lib.hid hkg
            clear hkg
            go_wp2
            go_round
            case rel => exact ⟨c, k, hc, by have := HKG.out; omega, by have := HD2.out; omega, rfl, rfl⟩
            case measure => simp [intOf]; omega
        · have hli : (d : Int) - (c : Int) ≤ 1 := by omega
          have hcg : c = g := by omega
          subst hcg
          clear hlt HG hd2
          go_wp2
          go_ret2
          exact AtPost.mk hr.out (Below.refl _ _)
  case inr.inr =>
    obtain rfl : x = M := by have := HA.out; omega
    rcases (show (N == 0) = true ∨ (N == 0) = false by cases (N == 0) <;> simp) with hy1 | hy1
    all_goals
      go_enter Tryz.func46, Tryz.ntmps46
      go_wp2_with fail
      refine (rtout_any _ _ (by omega) (by omega)).mono ?_
      rintro e w' ⟨rfl, rfl⟩
      go_wp2_with fail
      refine (rtout_any _ _ HB.out.1 HB.out.2).mono ?_
      rintro e w' ⟨rfl, rfl⟩
      have hm1 : max N x = x := by omega
      have hm3 : min N x = N := by omega
      go_wp2_with fail
      clear hm1 hm3
      go_loop [10, 11] (fun i j => SideRel g i j) (fun i j => (intOf j).toNat - (intOf i).toNat)
      case atStart => exact ⟨0, 16200001, by omega, by have := HG.out.1; omega, by omega, rfl, rfl⟩
      case round =>
        obtain ⟨c, d, hc, hd, hd2, rfl, rfl⟩ := hrel
        have hci : (c : Int) ≤ 16200000 := by omega
        have hdi : (d : Int) ≤ 16200001 := by omega
        by_cases hlt : c + 1 < d
        · obtain ⟨k, hk⟩ : ∃ k, (c + d) / 2 = k := ⟨_, rfl⟩
          have HK : Hid (((c : Int) + (d : Int)) / 2 = (k : Int)) := by unfold Hid; omega
          have hk1 : c < k := by omega
          have hk2 : k < d := by omega
          have hli : (1 : Int) < (d : Int) - (c : Int) := by omega
          have HD2 := Lib.hid hd2
          have hkb : (k : Int) ≤ 16200000 := by omega
          have HT := Lib.hid (HG.out.2 k (by omega) (by omega))
          have P1 := Lib.hid (sin_prod k x (by omega) (by omega)).1
          have P2 := Lib.hid (sin_prod k N (by omega) (by omega)).2
          clear hk hlt hd2
          go_wp2_with fail
          rw [HK.out]
          refine (rtSin_any _ _ (by omega) (by omega)).mono ?_
          rintro e w' ⟨rfl, rfl⟩
          have p1 := P1.out
          go_wp2_with fail
          refine (rtCos_any _ _ (by omega) (by omega)).mono ?_
          rintro e w' ⟨rfl, rfl⟩
          have p2 := P2.out
          by_cases hkg : k ≤ g
          · have ht : sinZ (k : Int) * x ≤ cosZ (k : Int) * N := HT.out.2 hkg
            have HKG := Lib.hid hkg
            clear hkg
            go_wp2
            go_round
            case rel => exact ⟨k, d, HKG.out, hd, HD2.out, rfl, rfl⟩
            case measure => simp [intOf]; omega
          · have ht : decide (sinZ (k : Int) * x ≤ cosZ (k : Int) * N) = false := by
              have := mt HT.out.1 hkg
              rw [decide_eq_false_iff_not]; exact this
            have HKG := Lib.hid hkg
            clear hkg
            go_wp2
            go_round
            case rel => exact ⟨c, k, hc, by have := HKG.out; omega, by have := HD2.out; omega, rfl, rfl⟩
            case measure => simp [intOf]; omega
        · have hli : (d : Int) - (c : Int) ≤ 1 := by omega
          have hcg : c = g := by omega
          subst hcg
          clear hlt HG hd2
          go_wp2
          go_ret2
          exact AtPost.mk hr.out (Below.refl _ _)
end Go.Proofs.YteojggbmkppjoaaGreatDoor
namespace Go.Proofs.YteojggbmkppjoaaGreatDoor
open Go.RowKit
set_option linter.unusedVariables false
set_option linter.unusedSimpArgs false

theorem sround_any (x : Int) (w : World) (h1 : -4611686018427387904 ≤ x) (h2 : x ≤ 4611686018427387904) :
    Calls Tryz.prog 23 #[.int .i64 x] w fun e w' => e = .returned (.int .i64 (rnd x)) ∧ w = w' := by
  have HR : Hid (rnd x = (x + 536870912) / 1073741824) := rfl
  go_enter Tryz.func23, Tryz.ntmps23
  go_wp2
  go_ret
  exact ⟨ret_int HR.out.symm, rfl⟩
theorem rround_any (x : Int) (w : World) (h1 : -4611686018427387904 ≤ x) (h2 : x ≤ 4611686018427387904) :
    Calls Tryz.prog 77 #[.int .i64 x] w fun e w' => e = .returned (.int .i64 (rnd x)) ∧ w = w' := by
  have HR : Hid (rnd x = (x + 536870912) / 1073741824) := rfl
  go_enter Tryz.func77, Tryz.ntmps77
  go_wp2
  go_ret
  exact ⟨ret_int HR.out.symm, rfl⟩
theorem rpart_any (x : Int) (w : World) (h1 : -4611686018427387904 ≤ x) (h2 : x ≤ 4611686018427387904) :
    Calls Tryz.prog 45 #[.int .i64 x] w fun e w' => e = .returned (.int .i64 (rnd (x.natAbs : Int))) ∧ w = w' := by
  by_cases h0 : x < 0
  · have HX : Hid (rnd (x.natAbs : Int) = (-x + 536870912) / 1073741824) := by unfold Hid rnd; rw [show (x.natAbs : Int) = -x by omega]
    go_enter Tryz.func45, Tryz.ntmps45
    go_wp2
    go_ret
    exact ⟨ret_int HX.out.symm, rfl⟩
  · have HX : Hid (rnd (x.natAbs : Int) = (x + 536870912) / 1073741824) := by unfold Hid rnd; rw [show (x.natAbs : Int) = x by omega]
    have h3 : 0 ≤ x := by omega
    go_enter Tryz.func45, Tryz.ntmps45
    go_wp2
    go_ret
    exact ⟨ret_int HX.out.symm, rfl⟩
/-- a direction as a value -/
def vcV (u : V3) : Value := .agg #[.int .i64 u.x, .int .i64 u.y, .int .i64 u.z]
set_option maxHeartbeats 1000000 in
theorem sdot_any (u v : V3) (w : World) (hu : u.Ok) (hv : v.Ok) :
    Calls Tryz.prog 27 #[vcV u, vcV v] w fun e w' => e = .returned (.int .i64 (rnd (u.dot v))) ∧ Below w.heap.size w w' := by
  have p1 := prod_bd _ _ hu.x hv.x
  have p2 := prod_bd _ _ hu.y hv.y
  have p3 := prod_bd _ _ hu.z hv.z
  have HD : Hid (u.dot v = u.x * v.x + u.y * v.y + u.z * v.z) := rfl
  rw [HD.out]
  unfold vcV
  obtain ⟨ux, uy, uz⟩ := u
  obtain ⟨vx, vy, vz⟩ := v
  simp only at p1 p2 p3 ⊢
  obtain ⟨a, ha⟩ : ∃ a, ux * vx = a := ⟨_, rfl⟩
  obtain ⟨b, hb⟩ : ∃ a, uy * vy = a := ⟨_, rfl⟩
  obtain ⟨c, hc⟩ : ∃ a, uz * vz = a := ⟨_, rfl⟩
  rw [ha] at p1
  rw [hb] at p2
  rw [hc] at p3
  rw [ha, hb, hc]
  clear HD hu hv
  go_enter Tryz.func27, Tryz.ntmps27
  go_wp2_with fail
  refine (sround_any _ _ (by omega) (by omega)).mono ?_
  rintro e w' ⟨rfl, rfl⟩
  go_wp2
  go_ret
  exact ⟨rfl, ((Below.refl _ _).alloc (Nat.le_refl _) _).alloc (by simp) _⟩
set_option maxHeartbeats 1000000 in
theorem rdot_any (u v : V3) (w : World) (hu : u.Ok) (hv : v.Ok) :
    Calls Tryz.prog 48 #[vcV u, vcV v] w fun e w' => e = .returned (.int .i64 (rnd (u.dot v))) ∧ Below w.heap.size w w' := by
  have p1 := prod_bd _ _ hu.x hv.x
  have p2 := prod_bd _ _ hu.y hv.y
  have p3 := prod_bd _ _ hu.z hv.z
  have HD : Hid (u.dot v = u.x * v.x + u.y * v.y + u.z * v.z) := rfl
  rw [HD.out]
  unfold vcV
  obtain ⟨ux, uy, uz⟩ := u
  obtain ⟨vx, vy, vz⟩ := v
  simp only at p1 p2 p3 ⊢
  obtain ⟨a, ha⟩ : ∃ a, ux * vx = a := ⟨_, rfl⟩
  obtain ⟨b, hb⟩ : ∃ a, uy * vy = a := ⟨_, rfl⟩
  obtain ⟨c, hc⟩ : ∃ a, uz * vz = a := ⟨_, rfl⟩
  rw [ha] at p1
  rw [hb] at p2
  rw [hc] at p3
  rw [ha, hb, hc]
  clear HD hu hv
  go_enter Tryz.func48, Tryz.ntmps48
  go_wp2_with fail
  refine (rround_any _ _ (by omega) (by omega)).mono ?_
  rintro e w' ⟨rfl, rfl⟩
  go_wp2
  go_ret
  exact ⟨rfl, ((Below.refl _ _).alloc (Nat.le_refl _) _).alloc (by simp) _⟩
/-- a valid position -/
def vldB (la lo : Int) : Bool := decide (-32400000 ≤ la) && decide (la ≤ 32400000) && decide (-64800000 < lo) && decide (lo ≤ 64800000)
theorem sValid_any (la lo : Int) (w : World) :
    Calls Tryz.prog 21 #[.agg #[.int .i64 la, .int .i64 lo]] w fun e w' => e = .returned (.bool (vldB la lo)) ∧ Below w.heap.size w w' := by
  by_cases h1 : -32400000 ≤ la
  · by_cases h2 : la ≤ 32400000
    · by_cases h3 : -64800000 < lo
      · by_cases h4 : lo ≤ 64800000
        · have HV : Hid (vldB la lo = true) := by unfold Hid vldB; simp [h1, h2, h3, h4]
          go_enter Tryz.func21, Tryz.ntmps21
          go_wp2
          go_ret
          exact ⟨ret_bool (by rw [HV.out]), (Below.refl _ _).alloc (Nat.le_refl _) _⟩
        · have HV : Hid (vldB la lo = false) := by unfold Hid vldB; simp [h4]
          go_enter Tryz.func21, Tryz.ntmps21
          go_wp2
          go_ret
          exact ⟨ret_bool (by rw [HV.out]), (Below.refl _ _).alloc (Nat.le_refl _) _⟩
      · have HV : Hid (vldB la lo = false) := by unfold Hid vldB; simp [h3]
        go_enter Tryz.func21, Tryz.ntmps21
        go_wp2
        go_ret
        exact ⟨ret_bool (by rw [HV.out]), (Below.refl _ _).alloc (Nat.le_refl _) _⟩
    · have HV : Hid (vldB la lo = false) := by unfold Hid vldB; simp [h2]
      go_enter Tryz.func21, Tryz.ntmps21
      go_wp2
      go_ret
      exact ⟨ret_bool (by rw [HV.out]), (Below.refl _ _).alloc (Nat.le_refl _) _⟩
  · have HV : Hid (vldB la lo = false) := by unfold Hid vldB; simp [h1]
    go_enter Tryz.func21, Tryz.ntmps21
    go_wp2
    go_ret
    exact ⟨ret_bool (by rw [HV.out]), (Below.refl _ _).alloc (Nat.le_refl _) _⟩
theorem rsValid_any (la lo : Int) (w : World) :
    Calls Tryz.prog 75 #[.agg #[.int .i64 la, .int .i64 lo]] w fun e w' => e = .returned (.bool (vldB la lo)) ∧ Below w.heap.size w w' := by
  by_cases h1 : -32400000 ≤ la
  · by_cases h2 : la ≤ 32400000
    · by_cases h3 : -64800000 < lo
      · by_cases h4 : lo ≤ 64800000
        · have HV : Hid (vldB la lo = true) := by unfold Hid vldB; simp [h1, h2, h3, h4]
          go_enter Tryz.func75, Tryz.ntmps75
          go_wp2
          go_ret
          exact ⟨ret_bool (by rw [HV.out]), (Below.refl _ _).alloc (Nat.le_refl _) _⟩
        · have HV : Hid (vldB la lo = false) := by unfold Hid vldB; simp [h4]
          go_enter Tryz.func75, Tryz.ntmps75
          go_wp2
          go_ret
          exact ⟨ret_bool (by rw [HV.out]), (Below.refl _ _).alloc (Nat.le_refl _) _⟩
      · have HV : Hid (vldB la lo = false) := by unfold Hid vldB; simp [h3]
        go_enter Tryz.func75, Tryz.ntmps75
        go_wp2
        go_ret
        exact ⟨ret_bool (by rw [HV.out]), (Below.refl _ _).alloc (Nat.le_refl _) _⟩
    · have HV : Hid (vldB la lo = false) := by unfold Hid vldB; simp [h2]
      go_enter Tryz.func75, Tryz.ntmps75
      go_wp2
      go_ret
      exact ⟨ret_bool (by rw [HV.out]), (Below.refl _ _).alloc (Nat.le_refl _) _⟩
  · have HV : Hid (vldB la lo = false) := by unfold Hid vldB; simp [h1]
    go_enter Tryz.func75, Tryz.ntmps75
    go_wp2
    go_ret
    exact ⟨ret_bool (by rw [HV.out]), (Below.refl _ _).alloc (Nat.le_refl _) _⟩
end Go.Proofs.YteojggbmkppjoaaGreatDoor
namespace Go.Proofs.YteojggbmkppjoaaGreatDoor
open Go.RowKit
set_option linter.unusedVariables false
set_option linter.unusedSimpArgs false

theorem vld_bd {la lo : Int} (h : vldB la lo = true) : (-32400000 ≤ la ∧ la ≤ 32400000) ∧ -64800000 < lo ∧ lo ≤ 64800000 := by
  unfold vldB at h
  simp only [Bool.and_eq_true, decide_eq_true_eq] at h
  exact ⟨⟨h.1.1.1, h.1.1.2⟩, h.1.2, h.2⟩
theorem quiet0 {P : Program} {f : FuncId} {args : Array Value} {w : World} {v : Value} (h : Calls P f args w fun e w' => e = .returned v ∧ w = w') : Calls P f args w fun e w' => e = .returned v ∧ ∃ m, w' = w.drewN m :=
  h.mono fun _ _ ⟨h1, h2⟩ => ⟨h1, 0, by rw [← h2]; rfl⟩
theorem still0 {P : Program} {f : FuncId} {args : Array Value} {w : World} {v : Value} (h : Calls P f args w fun e w' => e = .returned v ∧ w = w') : Calls P f args w fun e w' => e = .returned v ∧ w' = w := h.mono fun _ _ ⟨h1, h2⟩ => ⟨h1, h2.symm⟩
theorem set3_cells {W : World} {b : Nat} {x y z X Y Z : Value} (h0 : W.cell? ⟨b, 0, none⟩ = some x) (h1 : W.cell? ⟨b, 1, none⟩ = some y) (h2 : W.cell? ⟨b, 2, none⟩ = some z) :
    let W' := ((W.setCell ⟨b, 0, none⟩ X).setCell ⟨b, 1, none⟩ Y).setCell ⟨b, 2, none⟩ Z
    W'.cell? ⟨b, 0, none⟩ = some X ∧ W'.cell? ⟨b, 1, none⟩ = some Y ∧ W'.cell? ⟨b, 2, none⟩ = some Z := by
  refine ⟨?_, ?_, ?_⟩
  · rw [World.cell?_setCell_other _ _ _ _ (by simp), World.cell?_setCell_other _ _ _ _ (by simp)]
    exact World.cell?_setCell_same _ _ _ h0
  · rw [World.cell?_setCell_other _ _ _ _ (by simp)]
    exact World.cell?_setCell_same _ _ _ ((World.cell?_setCell_other _ _ _ _ (by simp)).trans h1)
  · exact World.cell?_setCell_same _ _ _ ((World.cell?_setCell_other _ _ _ _ (by simp)).trans ((World.cell?_setCell_other _ _ _ _ (by simp)).trans h2))
set_option maxRecDepth 100000 in
set_option maxHeartbeats 4000000 in
theorem of_any (la lo : Int) (w : World) (h : vldB la lo = true) :
    Calls Tryz.prog 22 #[.agg #[.int .i64 la, .int .i64 lo]] w fun e w' => e = .returned (vcV (vecOf la lo)) ∧ Below w.heap.size w w' := by
  have hb := vld_bd h
  have p1 := prod_bd _ _ (cosZ_bd la) (cosZ_bd lo)
  have p2 := prod_bd _ _ (cosZ_bd la) (sinZ_bd lo)
  have HV : Hid (vcV (vecOf la lo) = .agg #[.int .i64 (rnd (cosZ la * cosZ lo)), .int .i64 (rnd (cosZ la * sinZ lo)), .int .i64 (sinZ la)]) := rfl
  have t1 := fun w => tCos_any la w (by omega) (by omega)
  have t2 := fun w => tCos_any lo w (by omega) (by omega)
  have t3 := fun w => tSin_any la w (by omega) (by omega)
  have t4 := fun w => tSin_any lo w (by omega) (by omega)
  have r1 := fun w => sround_any (cosZ la * cosZ lo) w (by omega) (by omega)
  have r2 := fun w => sround_any (cosZ la * sinZ lo) w (by omega) (by omega)
  have hw1 : IntKind.i64.wrap (cosZ la * cosZ lo) = cosZ la * cosZ lo := by rw [IntKind.wrap_i64]; omega
  have hw2 : IntKind.i64.wrap (cosZ la * sinZ lo) = cosZ la * sinZ lo := by rw [IntKind.wrap_i64]; omega
  rw [HV.out]
  obtain ⟨cl, hcl⟩ : ∃ c, cosZ la = c := ⟨_, rfl⟩
  obtain ⟨co, hco⟩ : ∃ c, cosZ lo = c := ⟨_, rfl⟩
  obtain ⟨sl, hsl⟩ : ∃ c, sinZ la = c := ⟨_, rfl⟩
  obtain ⟨so, hso⟩ : ∃ c, sinZ lo = c := ⟨_, rfl⟩
  rw [hcl, hco] at p1 r1 hw1
  rw [hcl, hso] at p2 r2 hw2
  rw [hcl] at t1
  rw [hco] at t2
  rw [hsl] at t3
  rw [hso] at t4
  rw [hcl, hco, hsl, hso]
  clear hcl hco hsl hso HV h hb
  obtain ⟨W2, hW2⟩ : ∃ W2, (w.alloc (.cells #[.int .i64 la, .int .i64 lo] 24)).alloc (.cells #[.int .i64 0, .int .i64 0, .int .i64 0] 56) = W2 := ⟨_, rfl⟩
  have HB : Hid (Below w.heap.size w W2) := by rw [← hW2]; exact ((Below.refl _ _).alloc (Nat.le_refl _) _).alloc (by simp) _
  have c0 : W2.cell? ⟨w.heap.size, 0, none⟩ = some (.int .i64 la) := by rw [← hW2]; simp [go_sem]
  have c1 : W2.cell? ⟨w.heap.size, 1, none⟩ = some (.int .i64 lo) := by rw [← hW2]; simp [go_sem]
  have d0 : W2.cell? ⟨w.heap.size + 1, 0, none⟩ = some (.int .i64 0) := by rw [← hW2]; simp [go_sem]
  have d1 : W2.cell? ⟨w.heap.size + 1, 1, none⟩ = some (.int .i64 0) := by rw [← hW2]; simp [go_sem]
  have d2 : W2.cell? ⟨w.heap.size + 1, 2, none⟩ = some (.int .i64 0) := by rw [← hW2]; simp [go_sem]
  have f0 : W2.frozen? ⟨w.heap.size + 1, 0, none⟩ = false := by rw [← hW2]; simp [go_sem]
  have f1 : W2.frozen? ⟨w.heap.size + 1, 1, none⟩ = false := by rw [← hW2]; simp [go_sem]
  have f2 : W2.frozen? ⟨w.heap.size + 1, 2, none⟩ = false := by rw [← hW2]; simp [go_sem]
  have s2 := fun W => still0 (t2 W)
  have s3 := fun W => still0 (t3 W)
  have s4 := fun W => still0 (t4 W)
  have q1 := fun W => still0 (r1 W)
  have q2 := fun W => still0 (r2 W)
  go_enter Tryz.func22, Tryz.ntmps22
  go_wp2_with fail
  refine (t1 _).mono ?_
  rintro e w1 ⟨rfl, rfl⟩
  go_wp2_with fail
  try rw [hW2]
  have e0 : W2.drew.cell? ⟨w.heap.size, 0, none⟩ = some (.int .i64 la) := c0
  have e1 : W2.drew.cell? ⟨w.heap.size, 1, none⟩ = some (.int .i64 lo) := c1
  obtain ⟨W3, hW3⟩ : ∃ W3, W2.drew = W3 := ⟨_, rfl⟩
  rw [hW3] at e0 e1
  refine wp_region_still_tail 16 (by kernel_rfl) (by kernel_rfl) ?_
  simp only [List.take_succ_cons, List.take_zero, List.drop_succ_cons, List.drop_zero]
  change wpStill _ _ W2.drew _ _ _
  rw [hW3]
  repeat still_step
  still_call (s2 _)
  repeat still_step
  still_call (q1 _)
  repeat still_step
  still_call (s4 _)
  repeat still_step
  still_call (q2 _)
  repeat still_step
  still_call (s3 _)
  repeat still_step
  refine wpStill_nil ?_
  change wpList _ _ _ _ _ W2.drew
  have g0 : W2.drew.cell? ⟨w.heap.size + 1, 0, none⟩ = some (.int .i64 0) := d0
  have g1 : W2.drew.cell? ⟨w.heap.size + 1, 1, none⟩ = some (.int .i64 0) := d1
  have g2 : W2.drew.cell? ⟨w.heap.size + 1, 2, none⟩ = some (.int .i64 0) := d2
  have k0 : W2.drew.frozen? ⟨w.heap.size + 1, 0, none⟩ = false := f0
  have k1 : W2.drew.frozen? ⟨w.heap.size + 1, 1, none⟩ = false := f1
  have k2 : W2.drew.frozen? ⟨w.heap.size + 1, 2, none⟩ = false := f2
  have HBd : Hid (Below w.heap.size w W2.drew) := HB.out.drew
  clear hW2 c0 c1 d0 d1 d2 f0 f1 f2 hW3 HB
  generalize W2.drew = W4 at *
  go_wp2
  have HB5 : Hid (Below w.heap.size w (((W4.setCell ⟨w.heap.size + 1, 0, none⟩ (.int .i64 (rnd (cl * co)))).setCell ⟨w.heap.size + 1, 1, none⟩ (.int .i64 (rnd (cl * so)))).setCell ⟨w.heap.size + 1, 2, none⟩ (.int .i64 sl))) :=
    ((HBd.out.setCell (by simp) _).setCell (by simp) _).setCell (by simp) _
  obtain ⟨x0, x1, x2⟩ := set3_cells (X := .int .i64 (rnd (cl * co))) (Y := .int .i64 (rnd (cl * so))) (Z := .int .i64 sl) g0 g1 g2
  generalize ((W4.setCell ⟨w.heap.size + 1, 0, none⟩ (.int .i64 (rnd (cl * co)))).setCell ⟨w.heap.size + 1, 1, none⟩ (.int .i64 (rnd (cl * so)))).setCell ⟨w.heap.size + 1, 2, none⟩ (.int .i64 sl) = W5 at HB5 x0 x1 x2 ⊢
  refine bodyPost_ret (by simp [results, Tryz.results22, go_sem, x0, x1, x2]; try rfl) rfl ?_
  exact ⟨rfl, HB5.out⟩
set_option maxRecDepth 100000 in
set_option maxHeartbeats 4000000 in
theorem rOf_ok (la lo : Int) (w : World) (h : vldB la lo = true) :
    Calls Tryz.prog 44 #[.agg #[.int .i64 la, .int .i64 lo]] w fun e w' => e = .returned (.tuple #[vcV (vecOf la lo), .int .i64 0]) ∧ Below w.heap.size w w' := by
  have hb := vld_bd h
  have p1 := prod_bd _ _ (cosZ_bd la) (cosZ_bd lo)
  have p2 := prod_bd _ _ (cosZ_bd la) (sinZ_bd lo)
  have HV : Hid (vcV (vecOf la lo) = .agg #[.int .i64 (rnd (cosZ la * cosZ lo)), .int .i64 (rnd (cosZ la * sinZ lo)), .int .i64 (sinZ la)]) := rfl
  have t1 := fun w => rtCos_any la w (by omega) (by omega)
  have t2 := fun w => rtCos_any lo w (by omega) (by omega)
  have t3 := fun w => rtSin_any la w (by omega) (by omega)
  have t4 := fun w => rtSin_any lo w (by omega) (by omega)
  have r1 := fun w => rround_any (cosZ la * cosZ lo) w (by omega) (by omega)
  have r2 := fun w => rround_any (cosZ la * sinZ lo) w (by omega) (by omega)
  have hw1 : IntKind.i64.wrap (cosZ la * cosZ lo) = cosZ la * cosZ lo := by rw [IntKind.wrap_i64]; omega
  have hw2 : IntKind.i64.wrap (cosZ la * sinZ lo) = cosZ la * sinZ lo := by rw [IntKind.wrap_i64]; omega
  have hv := fun w => rsValid_any la lo w
  rw [HV.out]
  rw [h] at hv
  obtain ⟨cl, hcl⟩ : ∃ c, cosZ la = c := ⟨_, rfl⟩
  obtain ⟨co, hco⟩ : ∃ c, cosZ lo = c := ⟨_, rfl⟩
  obtain ⟨sl, hsl⟩ : ∃ c, sinZ la = c := ⟨_, rfl⟩
  obtain ⟨so, hso⟩ : ∃ c, sinZ lo = c := ⟨_, rfl⟩
  rw [hcl, hco] at p1 r1 hw1
  rw [hcl, hso] at p2 r2 hw2
  rw [hcl] at t1
  rw [hco] at t2
  rw [hsl] at t3
  rw [hso] at t4
  rw [hcl, hco, hsl, hso]
  clear hcl hco hsl hso HV h hb
  obtain ⟨W2, hW2⟩ : ∃ W2, (w.alloc (.cells #[.int .i64 la, .int .i64 lo] 24)).alloc (.cells #[.int .i64 0, .int .i64 0, .int .i64 0] 56) = W2 := ⟨_, rfl⟩
  have HB : Hid (Below w.heap.size w W2) := by rw [← hW2]; exact ((Below.refl _ _).alloc (Nat.le_refl _) _).alloc (by simp) _
  have HC : Hid (W2.cell? ⟨w.heap.size, 0, none⟩ = some (.int .i64 la) ∧ W2.cell? ⟨w.heap.size, 1, none⟩ = some (.int .i64 lo) ∧
      W2.cell? ⟨w.heap.size + 1, 0, none⟩ = some (.int .i64 0) ∧ W2.cell? ⟨w.heap.size + 1, 1, none⟩ = some (.int .i64 0) ∧ W2.cell? ⟨w.heap.size + 1, 2, none⟩ = some (.int .i64 0) ∧
      W2.frozen? ⟨w.heap.size + 1, 0, none⟩ = false ∧ W2.frozen? ⟨w.heap.size + 1, 1, none⟩ = false ∧ W2.frozen? ⟨w.heap.size + 1, 2, none⟩ = false ∧ w.heap.size + 1 < W2.heap.size) := by rw [← hW2]; unfold Hid; simp [go_sem]
  have c0 := HC.out.1
  have c1 := HC.out.2.1
  have s2 := fun W => still0 (t2 W)
  have s3 := fun W => still0 (t3 W)
  have s4 := fun W => still0 (t4 W)
  have q1 := fun W => still0 (r1 W)
  have q2 := fun W => still0 (r2 W)
  go_enter Tryz.func44, Tryz.ntmps44
  go_wp2_with fail
  try rw [hW2]
  refine (hv _).mono ?_
  rintro e w1 ⟨rfl, hbv⟩
  have HBV : Hid (Below w.heap.size w w1) := HB.out.trans (hbv.mono HB.out.size)
  have HC1 : Hid (w1.cell? ⟨w.heap.size, 0, none⟩ = some (.int .i64 la) ∧ w1.cell? ⟨w.heap.size, 1, none⟩ = some (.int .i64 lo) ∧
      w1.cell? ⟨w.heap.size + 1, 0, none⟩ = some (.int .i64 0) ∧ w1.cell? ⟨w.heap.size + 1, 1, none⟩ = some (.int .i64 0) ∧ w1.cell? ⟨w.heap.size + 1, 2, none⟩ = some (.int .i64 0) ∧
      w1.frozen? ⟨w.heap.size + 1, 0, none⟩ = false ∧ w1.frozen? ⟨w.heap.size + 1, 1, none⟩ = false ∧ w1.frozen? ⟨w.heap.size + 1, 2, none⟩ = false) := by
    obtain ⟨x0, x1, x2, x3, x4, x5, x6, x7, x8⟩ := HC.out
    have k0 : ∀ j, w1.cell? ⟨w.heap.size, j, none⟩ = W2.cell? ⟨w.heap.size, j, none⟩ := fun j => hbv.cell (p := ⟨w.heap.size, j, none⟩) (by show w.heap.size < _; omega)
    have k1 : ∀ j, w1.cell? ⟨w.heap.size + 1, j, none⟩ = W2.cell? ⟨w.heap.size + 1, j, none⟩ := fun j => hbv.cell (p := ⟨w.heap.size + 1, j, none⟩) x8
    have k2 : ∀ j, w1.frozen? ⟨w.heap.size + 1, j, none⟩ = W2.frozen? ⟨w.heap.size + 1, j, none⟩ := fun j => hbv.frozen (p := ⟨w.heap.size + 1, j, none⟩) x8
    exact ⟨(k0 _).trans x0, (k0 _).trans x1, (k1 _).trans x2, (k1 _).trans x3, (k1 _).trans x4, (k2 _).trans x5, (k2 _).trans x6, (k2 _).trans x7⟩
  clear hbv HC HB c0 c1 hW2
  have c0 := HC1.out.1
  have c1 := HC1.out.2.1
  go_wp2_with fail
  refine (t1 _).mono ?_
  rintro e w1 ⟨rfl, rfl⟩
  go_wp2_with fail
  have e0 : w1.drew.cell? ⟨w.heap.size, 0, none⟩ = some (.int .i64 la) := c0
  have e1 : w1.drew.cell? ⟨w.heap.size, 1, none⟩ = some (.int .i64 lo) := c1
  obtain ⟨W3, hW3⟩ : ∃ W3, w1.drew = W3 := ⟨_, rfl⟩
  rw [hW3] at e0 e1
  refine wp_region_still_tail 16 (by kernel_rfl) (by kernel_rfl) ?_
  simp only [List.take_succ_cons, List.take_zero, List.drop_succ_cons, List.drop_zero]
  change wpStill _ _ w1.drew _ _ _
  rw [hW3]
  repeat still_step
  still_call (s2 _)
  repeat still_step
  still_call (q1 _)
  repeat still_step
  still_call (s4 _)
  repeat still_step
  still_call (q2 _)
  repeat still_step
  still_call (s3 _)
  repeat still_step
  refine wpStill_nil ?_
  change wpList _ _ _ _ _ w1.drew
  have g0 : w1.drew.cell? ⟨w.heap.size + 1, 0, none⟩ = some (.int .i64 0) := HC1.out.2.2.1
  have g1 : w1.drew.cell? ⟨w.heap.size + 1, 1, none⟩ = some (.int .i64 0) := HC1.out.2.2.2.1
  have g2 : w1.drew.cell? ⟨w.heap.size + 1, 2, none⟩ = some (.int .i64 0) := HC1.out.2.2.2.2.1
  have k0 : w1.drew.frozen? ⟨w.heap.size + 1, 0, none⟩ = false := HC1.out.2.2.2.2.2.1
  have k1 : w1.drew.frozen? ⟨w.heap.size + 1, 1, none⟩ = false := HC1.out.2.2.2.2.2.2.1
  have k2 : w1.drew.frozen? ⟨w.heap.size + 1, 2, none⟩ = false := HC1.out.2.2.2.2.2.2.2
  have HBd : Hid (Below w.heap.size w w1.drew) := HBV.out.drew
  clear c0 c1 hW3 HBV HC1
  generalize w1.drew = W4 at *
  go_wp2
  have HB5 : Hid (Below w.heap.size w (((W4.setCell ⟨w.heap.size + 1, 0, none⟩ (.int .i64 (rnd (cl * co)))).setCell ⟨w.heap.size + 1, 1, none⟩ (.int .i64 (rnd (cl * so)))).setCell ⟨w.heap.size + 1, 2, none⟩ (.int .i64 sl))) :=
    ((HBd.out.setCell (by simp) _).setCell (by simp) _).setCell (by simp) _
  obtain ⟨x0, x1, x2⟩ := set3_cells (X := .int .i64 (rnd (cl * co))) (Y := .int .i64 (rnd (cl * so))) (Z := .int .i64 sl) g0 g1 g2
  generalize ((W4.setCell ⟨w.heap.size + 1, 0, none⟩ (.int .i64 (rnd (cl * co)))).setCell ⟨w.heap.size + 1, 1, none⟩ (.int .i64 (rnd (cl * so)))).setCell ⟨w.heap.size + 1, 2, none⟩ (.int .i64 sl) = W5 at HB5 x0 x1 x2 ⊢
  refine bodyPost_ret (by simp [results, Tryz.results44, go_sem, x0, x1, x2]; try rfl) rfl ?_
  exact ⟨rfl, HB5.out⟩
set_option maxRecDepth 100000 in
set_option maxHeartbeats 4000000 in
theorem rOf_bad (la lo : Int) (w : World) (h : vldB la lo = false) :
    Calls Tryz.prog 44 #[.agg #[.int .i64 la, .int .i64 lo]] w fun e w' => e = .returned (.tuple #[vcV ⟨0, 0, 0⟩, .int .i64 1]) ∧ Below w.heap.size w w' := by
  have hv := fun w => rsValid_any la lo w
  rw [h] at hv
  show Calls _ _ _ _ fun e w' => e = .returned (.tuple #[.agg #[.int .i64 0, .int .i64 0, .int .i64 0], .int .i64 1]) ∧ Below w.heap.size w w'
  obtain ⟨W2, hW2⟩ : ∃ W2, (w.alloc (.cells #[.int .i64 la, .int .i64 lo] 24)).alloc (.cells #[.int .i64 0, .int .i64 0, .int .i64 0] 56) = W2 := ⟨_, rfl⟩
  have HB : Hid (Below w.heap.size w W2) := by rw [← hW2]; exact ((Below.refl _ _).alloc (Nat.le_refl _) _).alloc (by simp) _
  have HC : Hid (W2.cell? ⟨w.heap.size, 0, none⟩ = some (.int .i64 la) ∧ W2.cell? ⟨w.heap.size, 1, none⟩ = some (.int .i64 lo) ∧
      W2.cell? ⟨w.heap.size + 1, 0, none⟩ = some (.int .i64 0) ∧ W2.cell? ⟨w.heap.size + 1, 1, none⟩ = some (.int .i64 0) ∧ W2.cell? ⟨w.heap.size + 1, 2, none⟩ = some (.int .i64 0) ∧
      W2.frozen? ⟨w.heap.size + 1, 0, none⟩ = false ∧ W2.frozen? ⟨w.heap.size + 1, 1, none⟩ = false ∧ W2.frozen? ⟨w.heap.size + 1, 2, none⟩ = false ∧ w.heap.size + 1 < W2.heap.size) := by rw [← hW2]; unfold Hid; simp [go_sem]
  have c0 := HC.out.1
  have c1 := HC.out.2.1
  clear h
  go_enter Tryz.func44, Tryz.ntmps44
  go_wp2_with fail
  try rw [hW2]
  refine (hv _).mono ?_
  rintro e w1 ⟨rfl, hbv⟩
  have HBV : Hid (Below w.heap.size w w1) := HB.out.trans (hbv.mono HB.out.size)
  have HC1 : Hid (w1.cell? ⟨w.heap.size + 1, 0, none⟩ = some (.int .i64 0) ∧ w1.cell? ⟨w.heap.size + 1, 1, none⟩ = some (.int .i64 0) ∧ w1.cell? ⟨w.heap.size + 1, 2, none⟩ = some (.int .i64 0) ∧
      w1.frozen? ⟨w.heap.size + 1, 0, none⟩ = false ∧ w1.frozen? ⟨w.heap.size + 1, 1, none⟩ = false ∧ w1.frozen? ⟨w.heap.size + 1, 2, none⟩ = false) := by
    obtain ⟨x0, x1, x2, x3, x4, x5, x6, x7, x8⟩ := HC.out
    have k1 : ∀ j, w1.cell? ⟨w.heap.size + 1, j, none⟩ = W2.cell? ⟨w.heap.size + 1, j, none⟩ := fun j => hbv.cell (p := ⟨w.heap.size + 1, j, none⟩) x8
    have k2 : ∀ j, w1.frozen? ⟨w.heap.size + 1, j, none⟩ = W2.frozen? ⟨w.heap.size + 1, j, none⟩ := fun j => hbv.frozen (p := ⟨w.heap.size + 1, j, none⟩) x8
    exact ⟨(k1 _).trans x2, (k1 _).trans x3, (k1 _).trans x4, (k2 _).trans x5, (k2 _).trans x6, (k2 _).trans x7⟩
  clear hbv HC HB c0 c1 hW2
  obtain ⟨g0, g1, g2, k0, k1, k2⟩ := HC1.out
  clear HC1
  go_wp2
  have HB5 : Hid (Below w.heap.size w (((w1.setCell ⟨w.heap.size + 1, 0, none⟩ (.int .i64 0)).setCell ⟨w.heap.size + 1, 1, none⟩ (.int .i64 0)).setCell ⟨w.heap.size + 1, 2, none⟩ (.int .i64 0))) :=
    ((HBV.out.setCell (by simp) _).setCell (by simp) _).setCell (by simp) _
  obtain ⟨x0, x1, x2⟩ := set3_cells (X := .int .i64 0) (Y := .int .i64 0) (Z := .int .i64 0) g0 g1 g2
  generalize ((w1.setCell ⟨w.heap.size + 1, 0, none⟩ (.int .i64 0)).setCell ⟨w.heap.size + 1, 1, none⟩ (.int .i64 0)).setCell ⟨w.heap.size + 1, 2, none⟩ (.int .i64 0) = W5 at HB5 x0 x1 x2 ⊢
  refine bodyPost_ret (by simp [results, Tryz.results44, go_sem, x0, x1, x2]; try rfl) rfl ?_
  exact ⟨rfl, HB5.out⟩
end Go.Proofs.YteojggbmkppjoaaGreatDoor
namespace Go.Proofs.YteojggbmkppjoaaGreatDoor
open Go.RowKit
set_option linter.unusedVariables false
set_option linter.unusedSimpArgs false
theorem isq_le {n x : Nat} (h : n < (x + 1) * (x + 1)) : isq n ≤ x := by
  obtain ⟨h3, h4⟩ := isq_spec n
  rcases Nat.lt_or_ge x (isq n) with h1 | h1
  · have := Nat.mul_le_mul (show x + 1 ≤ isq n by omega) (show x + 1 ≤ isq n by omega); omega
  · exact h1
theorem isq_ge {n x : Nat} (h : x * x ≤ n) : x ≤ isq n := by
  obtain ⟨h3, h4⟩ := isq_spec n
  rcases Nat.lt_or_ge (isq n) x with h1 | h1
  · have := Nat.mul_le_mul (show isq n + 1 ≤ x by omega) (show isq n + 1 ≤ x by omega); omega
  · exact h1
/-- Newton's step stays at or above the root -/
theorem newton_ge {n x : Nat} (hx : 0 < x) : isq n ≤ (x + n / x) / 2 := by
  obtain ⟨h3, h4⟩ := isq_spec n
  rcases Nat.lt_or_ge ((x + n / x) / 2) (isq n) with h1 | h1
  · exfalso
    have h5 : n < x * (n / x) + x := by have := Nat.lt_mul_div_succ n hx; rw [Nat.mul_succ] at this; exact this
    generalize n / x = q at *
    generalize isq n = s at *
    have h6 : x + q + 1 ≤ 2 * s := by omega
    have h7 : n < x * (q + 1) := by rw [Nat.mul_succ]; exact h5
    have h8 : x * (q + 1) ≤ x * (2 * s - x) := Nat.mul_le_mul_left _ (by omega)
    have h9 : x * (2 * s - x) ≤ s * s := by
      obtain ⟨d, hd⟩ : ∃ d, 2 * s = x + d := ⟨2 * s - x, by omega⟩
      have e : 2 * s - x = d := by omega
      rw [e]
      have : (2 * s) * (2 * s) = (x + d) * (x + d) := by rw [hd]
      have h10 : 4 * (x * d) ≤ (x + d) * (x + d) := by
        rcases Nat.le_total x d with hh | hh
        · obtain ⟨t, rfl⟩ := Nat.exists_eq_add_of_le hh; grind
        · obtain ⟨t, rfl⟩ := Nat.exists_eq_add_of_le hh; grind
      have h11 : (2 * s) * (2 * s) = 4 * (s * s) := by grind
      omega
    omega
  · exact h1
theorem newton_stop {n x : Nat} (hx : 0 < x) (h : isq n ≤ x) (hy : x ≤ (x + n / x) / 2) : x = isq n := by
  have h1 : x ≤ n / x := by omega
  have h2 : x * x ≤ n := by
    have := Nat.mul_le_mul_left x h1
    have := Nat.mul_div_le n x
    omega
  exact Nat.le_antisymm (isq_ge h2) h
theorem newton_start {n L : Nat} (h : n < 2 ^ L) : isq n ≤ 2 ^ ((L + 1) / 2) := by
  refine isq_le (Nat.lt_of_lt_of_le h ?_)
  have h1 : 2 ^ L ≤ 2 ^ ((L + 1) / 2) * 2 ^ ((L + 1) / 2) := by rw [← Nat.pow_add]; exact Nat.pow_le_pow_right (by omega) (by omega)
  exact Nat.le_trans h1 (Nat.mul_le_mul (by omega) (by omega))
set_option maxRecDepth 100000 in
set_option maxHeartbeats 1000000 in
theorem sqrt_any (n : Nat) (w : World) (hn : n ≤ 2900000000000000000) :
    Calls Tryz.prog 26 #[.int .i64 (n : Int)] w fun e w' => e = .returned (.int .i64 (isq n : Int)) ∧ w' = w := by
  rcases Nat.eq_zero_or_pos n with h0 | h0
  · have HI : Hid (isq n = 0) := isq_eq (by omega) (by omega)
    subst h0
    go_enter Tryz.func26, Tryz.ntmps26
    go_wp2
    go_ret
    exact ⟨ret_int (by rw [HI.out]; rfl), rfl⟩
  · have hb : n < 2 ^ Lib.bitLen n := (Lib.bitLenAux_bounds 64 n (by omega) (by omega)).2.2
    have hL : Lib.bitLen n ≤ 62 := Lib.bitLen_le n 62 (by omega) (by omega)
    obtain ⟨L, hLe⟩ : ∃ L, Lib.bitLen n = L := ⟨_, rfl⟩
    have hlen := fun w => Tryz.bits_Len64 (n : Int) w (by omega) (by omega)
    have hlen : ∀ w, Calls Tryz.prog 55 #[.int .u64 (n : Int)] w fun e w' => e = .returned (.int .i64 (L : Int)) ∧ w' = w := by
      intro w
      have := hlen w
      rw [Int.toNat_natCast, hLe] at this
      exact this
    rw [hLe] at hb hL
    have HS : Hid (isq n ≤ 2 ^ ((L + 1) / 2)) := newton_start hb
    have h2 : 2 ^ ((L + 1) / 2) ≤ 2 ^ 31 := Nat.pow_le_pow_right (by omega) (by omega)
    have h3 : 0 < 2 ^ ((L + 1) / 2) := Nat.pow_pos (by omega)
    have hq : ((L : Int) + 1).tdiv 2 = (((L + 1) / 2 : Nat) : Int) := by rw [Int.tdiv_eq_ediv_of_nonneg (by omega)]; omega
    obtain ⟨X, hX⟩ : ∃ X : Nat, 2 ^ ((L + 1) / 2) = X := ⟨_, rfl⟩
    rw [hX] at HS h2 h3
    have hwx : wrap64 ((2 : Int) ^ ((L + 1) / 2)) = (X : Int) := by
      have e : ((2 : Int) ^ ((L + 1) / 2)) = (X : Int) := by rw [← hX]; push_cast; rfl
      rw [e]; unfold wrap64; omega
    clear hX
    go_enter Tryz.func26, Tryz.ntmps26
    go_wp2_with fail
    refine (hlen _).mono ?_
    rintro e w1 ⟨rfl, hw⟩
    have HW := Lib.hid hw
    clear hw hlen hb
    go_wp2_with fail
    rw [hwx]
    clear hwx
    go_loopg [3, 4] X (fun g a b wr => ∃ x : Nat, a = .int .i64 (x : Int) ∧ x ≤ g ∧ 0 < x ∧ x ≤ 2147483648 ∧ Hid (isq n ≤ x) ∧ Hid (wr = w))
    case atStart => exact ⟨X, by first | rfl | (rw [hwx]) | go_num, Nat.le_refl _, h3, h2, HS, HW⟩
    case round =>
      obtain ⟨x, rfl, hxg, hx0, hx1, hsx, hw⟩ := hrel
      obtain ⟨q, hq⟩ : ∃ q, n / x = q := ⟨_, rfl⟩
      have hqn : q ≤ n := by rw [← hq]; exact Nat.div_le_self _ _
      have hd1 : (n : Int) / (x : Int) = (q : Int) := by rw [← hq]; exact (Int.natCast_ediv n x).symm
      obtain ⟨y, hy⟩ : ∃ y, (x + q) / 2 = y := ⟨_, rfl⟩
      have hd2 : ((x : Int) + (q : Int)) / 2 = (y : Int) := by omega
      by_cases hyx : x ≤ y
      · have hyz : (x : Int) ≤ (y : Int) := by omega
        have HE : Hid (x = isq n) := newton_stop hx0 hsx.out (by rw [hq, hy]; exact hyx)
        clear hq hy hsx
        go_wp2
        go_ret
        exact ⟨ret_int (by rw [HE.out]), hw.out⟩
      · have hyz : ¬ (x : Int) ≤ (y : Int) := by omega
        have HG : Hid (isq n ≤ y) := by rw [← hy, ← hq]; exact newton_ge hx0
        have h0 : 0 < y := by
          have h1 : 0 < isq n := by
            rcases Nat.eq_zero_or_pos (isq n) with h | h
            · have := isq_zero h; omega
            · exact h
          have := HG.out; omega
        clear hq hy hsx
        go_wp2
        go_roundg y
        case measure => omega
        case rel => exact ⟨y, by first | rfl | go_num | (trace_state; fail), Nat.le_refl _, h0, by omega, HG, hw⟩
theorem sq_lt' {a b : Nat} (h : a ≤ b) : a * a ≤ b * b := Nat.mul_le_mul h h
set_option maxRecDepth 100000 in
set_option maxHeartbeats 1000000 in
theorem rsqrt_any (n : Nat) (w : World) (hn : n ≤ 2900000000000000000) :
    Calls Tryz.prog 47 #[.int .i64 (n : Int)] w fun e w' => e = .returned (.int .i64 (isq n : Int)) ∧ w' = w := by
  have hI := isq_bd hn
  go_enter Tryz.func47, Tryz.ntmps47
  go_wp2
  go_loopg [3, 4] 2147483648 (fun g a b wr => ∃ r t k : Nat, a = .int .u64 (r : Int) ∧ b = .int .u64 (t : Int) ∧ t ≤ g ∧ (t = 2 ^ k ∨ t = 0) ∧ r + 2 * t ≤ 4294967296 ∧ r ≤ 4294967295 ∧ Hid (r * r ≤ n ∧ n < (r + max (2 * t) 1) * (r + max (2 * t) 1)) ∧ Hid (wr = w))
  case atStart => exact ⟨0, 2147483648, 31, rfl, rfl, Nat.le_refl _, .inl rfl, by omega, by omega, ⟨by omega, by simp; omega⟩, rfl⟩
  case round =>
    obtain ⟨r, t, k, rfl, rfl, htg, hk, hr, hr1, hI2, hw⟩ := hrel
    by_cases h0 : t = 0
    · subst h0
      have HE : Hid (isq n = r) := isq_eq hI2.out.1 (by simpa using hI2.out.2)
      have hr2 : r ≤ 1702938636 := by rw [← HE.out]; exact hI
      go_wp2
      go_ret
      exact ⟨ret_int (by rw [HE.out]), hw.out⟩
    · have htz : (0 : Int) < (t : Int) := by omega
      have hhalf : ∃ k', t / 2 = 2 ^ k' ∨ t / 2 = 0 := by
        rcases hk with hk | hk
        · cases k with
          | zero => exact ⟨0, .inr (by omega)⟩
          | succ k => exact ⟨k, .inl (by rw [hk, Nat.pow_succ]; omega)⟩
        · exact ⟨0, .inr (by omega)⟩
      have heven : t = 1 ∨ t = 2 * (t / 2) := by
        rcases hk with hk | hk
        · cases k with
          | zero => exact .inl hk
          | succ k => right; have := Nat.pow_succ (n := 2) (m := k); omega
        · omega
      obtain ⟨t2, ht2⟩ : ∃ t2, t / 2 = t2 := ⟨_, rfl⟩
      rw [ht2] at hhalf heven
      have hd : (t : Int) / 2 = (t2 : Int) := by omega
      have hmax : max (2 * t) 1 = 2 * t := by omega
      have hmax2 : max (2 * t2) 1 = t := by omega
      obtain ⟨k2, hk2⟩ := hhalf
      have hsm : (r + t) * (r + t) ≤ 4294967295 * 4294967295 := sq_lt' (by omega)
      obtain ⟨s, hs⟩ : ∃ s, (r + t) * (r + t) = s := ⟨_, rfl⟩
      have hsz : ((r : Int) + (t : Int)) * ((r : Int) + (t : Int)) = (s : Int) := by rw [← hs]; push_cast; rfl
      rw [hs] at hsm
      by_cases hc : s ≤ n
      · have hcz : (s : Int) ≤ (n : Int) := by omega
        have HN : Hid ((r + t) * (r + t) ≤ n ∧ n < (r + t + max (2 * t2) 1) * (r + t + max (2 * t2) 1)) := by
          refine ⟨by rw [hs]; exact hc, ?_⟩
          have := hI2.out.2
          rw [hmax] at this
          rw [hmax2, show r + t + t = r + 2 * t by omega]; exact this
        clear hs hI2 hI
        go_wp2
        go_roundg t2
        case measure => omega
        case rel => exact ⟨r + t, t2, k2, by go_num, by go_num, Nat.le_refl _, hk2, by omega, by omega, HN, hw⟩
      · have hcz : ¬ (s : Int) ≤ (n : Int) := by omega
        have HN : Hid (r * r ≤ n ∧ n < (r + max (2 * t2) 1) * (r + max (2 * t2) 1)) := ⟨hI2.out.1, by rw [hmax2, hs]; omega⟩
        clear hs hI2 hI
        go_wp2
        go_roundg t2
        case measure => omega
        case rel => exact ⟨r, t2, k2, by go_num, by go_num, Nat.le_refl _, hk2, by omega, by omega, HN, hw⟩
end Go.Proofs.YteojggbmkppjoaaGreatDoor
namespace Go.Proofs.YteojggbmkppjoaaGreatDoor
open Go.RowKit
set_option linter.unusedVariables false
set_option linter.unusedSimpArgs false
/-- two positions' boxes -/
def PosB (b : Nat) (la lo : Int) (w : World) : Prop := w.cell? ⟨b, 0, none⟩ = some (.int .i64 la) ∧ w.cell? ⟨b, 1, none⟩ = some (.int .i64 lo)
theorem PosB.below {b : Nat} {la lo : Int} {w w' : World} (h : PosB b la lo w) (hb : b < w.heap.size) {B : Nat} (hbe : Below B w w') (hB : b < B) : PosB b la lo w' :=
  ⟨(hbe.cell (p := ⟨b, 0, none⟩) hB).trans h.1, (hbe.cell (p := ⟨b, 1, none⟩) hB).trans h.2⟩
/-- a direction's box -/
def VecB (b : Nat) (u : V3) (w : World) : Prop := w.cell? ⟨b, 0, none⟩ = some (.int .i64 u.x) ∧ w.cell? ⟨b, 1, none⟩ = some (.int .i64 u.y) ∧ w.cell? ⟨b, 2, none⟩ = some (.int .i64 u.z) ∧ b < w.heap.size
/-- a world in which two boxes of the call's own lie -/
def DT (w T : World) : Prop := Below w.heap.size w T ∧ w.heap.size + 1 < T.heap.size
theorem DT.alloc {w T : World} (o : Obj) (h : DT w T) : DT w (T.alloc o) := ⟨h.1.alloc h.1.size o, by rw [World.size_alloc]; have := h.2; omega⟩
theorem DT.setCell {w T : World} (q : Addr) (v : Value) (hq : w.heap.size ≤ q.block) (h : DT w T) : DT w (T.setCell q v) := ⟨h.1.setCell hq v, by rw [World.size_setCell]; exact h.2⟩
theorem DT.via {w T wa : World} (hb : Below T.heap.size T wa) (h : DT w T) : DT w wa := ⟨Below.then_ h.1 hb, Nat.lt_of_lt_of_le h.2 hb.size⟩
def DSq (w : World) (x0 x1 y0 y1 : Option Value) (T : World) : Prop := T.cell? ⟨w.heap.size, 0, none⟩ = x0 ∧ T.cell? ⟨w.heap.size, 1, none⟩ = x1 ∧ T.cell? ⟨w.heap.size + 1, 0, none⟩ = y0 ∧ T.cell? ⟨w.heap.size + 1, 1, none⟩ = y1
theorem ds_below {w : World} {x0 x1 y0 y1 : Option Value} {T wa : World} (hb : Below T.heap.size T wa) (d : DT w T) (h : T.cell? ⟨w.heap.size, 0, none⟩ = x0 ∧ T.cell? ⟨w.heap.size, 1, none⟩ = x1 ∧ T.cell? ⟨w.heap.size + 1, 0, none⟩ = y0 ∧ T.cell? ⟨w.heap.size + 1, 1, none⟩ = y1) :
    wa.cell? ⟨w.heap.size, 0, none⟩ = x0 ∧ wa.cell? ⟨w.heap.size, 1, none⟩ = x1 ∧ wa.cell? ⟨w.heap.size + 1, 0, none⟩ = y0 ∧ wa.cell? ⟨w.heap.size + 1, 1, none⟩ = y1 :=
  have hs := d.2
  ⟨(hb.cell (p := ⟨w.heap.size, 0, none⟩) (by show w.heap.size < _; omega)).trans h.1, (hb.cell (p := ⟨w.heap.size, 1, none⟩) (by show w.heap.size < _; omega)).trans h.2.1, (hb.cell (p := ⟨w.heap.size + 1, 0, none⟩) hs).trans h.2.2.1, (hb.cell (p := ⟨w.heap.size + 1, 1, none⟩) hs).trans h.2.2.2⟩
theorem ds_alloc {w : World} {x0 x1 y0 y1 : Option Value} {T : World} (o : Obj) (d : DT w T) (h : T.cell? ⟨w.heap.size, 0, none⟩ = x0 ∧ T.cell? ⟨w.heap.size, 1, none⟩ = x1 ∧ T.cell? ⟨w.heap.size + 1, 0, none⟩ = y0 ∧ T.cell? ⟨w.heap.size + 1, 1, none⟩ = y1) :
    (T.alloc o).cell? ⟨w.heap.size, 0, none⟩ = x0 ∧ (T.alloc o).cell? ⟨w.heap.size, 1, none⟩ = x1 ∧ (T.alloc o).cell? ⟨w.heap.size + 1, 0, none⟩ = y0 ∧ (T.alloc o).cell? ⟨w.heap.size + 1, 1, none⟩ = y1 := ds_below ((Below.refl _ T).alloc (Nat.le_refl _) o) d h
theorem ds_set {w : World} {x0 x1 y0 y1 : Option Value} {T : World} (q : Addr) (v : Value) (hs : w.heap.size + 1 < q.block) (h : T.cell? ⟨w.heap.size, 0, none⟩ = x0 ∧ T.cell? ⟨w.heap.size, 1, none⟩ = x1 ∧ T.cell? ⟨w.heap.size + 1, 0, none⟩ = y0 ∧ T.cell? ⟨w.heap.size + 1, 1, none⟩ = y1) :
    (T.setCell q v).cell? ⟨w.heap.size, 0, none⟩ = x0 ∧ (T.setCell q v).cell? ⟨w.heap.size, 1, none⟩ = x1 ∧ (T.setCell q v).cell? ⟨w.heap.size + 1, 0, none⟩ = y0 ∧ (T.setCell q v).cell? ⟨w.heap.size + 1, 1, none⟩ = y1 := by
  have k : ∀ c j, c ≤ w.heap.size + 1 → (T.setCell q v).cell? ⟨c, j, none⟩ = T.cell? ⟨c, j, none⟩ := fun c j hc => World.cell?_setCell_other _ _ _ _ (fun e => by rw [e] at hs; simp at hs; omega)
  exact ⟨(k _ _ (by omega)).trans h.1, (k _ _ (by omega)).trans h.2.1, (k _ _ (by omega)).trans h.2.2.1, (k _ _ (by omega)).trans h.2.2.2⟩
theorem new_gt {w T : World} (d : DT w T) : w.heap.size + 1 < T.heap.size := d.2
theorem new_gt1 {w T : World} (d : DT w T) : w.heap.size + 1 < T.heap.size + 1 := by have := d.2; omega
theorem new_le {w T : World} (d : DT w T) : w.heap.size ≤ T.heap.size := by have := d.2; omega
theorem new_le1 {w T : World} (d : DT w T) : w.heap.size ≤ T.heap.size + 1 := by have := d.2; omega
/-- a box of three numbers -/
def B3 (b : Nat) (x y z : Int) (T : World) : Prop := T.cell? ⟨b, 0, none⟩ = some (.int .i64 x) ∧ T.cell? ⟨b, 1, none⟩ = some (.int .i64 y) ∧ T.cell? ⟨b, 2, none⟩ = some (.int .i64 z) ∧ T.frozen? ⟨b, 0, none⟩ = false ∧ T.frozen? ⟨b, 1, none⟩ = false ∧ T.frozen? ⟨b, 2, none⟩ = false ∧ b < T.heap.size
theorem B3.via {b : Nat} {x y z : Int} {T wa : World} (hb : Below T.heap.size T wa) (h : B3 b x y z T) : B3 b x y z wa := by
  obtain ⟨h0, h1, h2, f0, f1, f2, hl⟩ := h
  exact ⟨(hb.cell (p := ⟨b, 0, none⟩) hl).trans h0, (hb.cell (p := ⟨b, 1, none⟩) hl).trans h1, (hb.cell (p := ⟨b, 2, none⟩) hl).trans h2, (hb.frozen (p := ⟨b, 0, none⟩) hl).trans f0, (hb.frozen (p := ⟨b, 1, none⟩) hl).trans f1, (hb.frozen (p := ⟨b, 2, none⟩) hl).trans f2, Nat.lt_of_lt_of_le hl hb.size⟩
theorem B3.grow {b : Nat} {x y z : Int} {T : World} (h : B3 b x y z T) (o : Obj) : B3 b x y z (T.alloc o) := B3.via ((Below.refl _ T).alloc (Nat.le_refl _) o) h
theorem B3.last (T : World) (x y z : Int) (t : TypeId) : B3 T.heap.size x y z (T.alloc (.cells #[.int .i64 x, .int .i64 y, .int .i64 z] t)) := by
  have h := heap_alloc_new T (.cells #[.int .i64 x, .int .i64 y, .int .i64 z] t)
  refine ⟨?_, ?_, ?_, ?_, ?_, ?_, by rw [World.size_alloc]; exact Nat.lt_succ_self _⟩
  · simp only [World.cell?, h, Option.bind_some, Bind.bind]; rfl
  · simp only [World.cell?, h, Option.bind_some, Bind.bind]; rfl
  · simp only [World.cell?, h, Option.bind_some, Bind.bind]; rfl
  · unfold World.frozen?; rw [h]; simp
  · unfold World.frozen?; rw [h]; simp
  · unfold World.frozen?; rw [h]; simp
theorem B3.last2 (T : World) (o : Obj) (x y z : Int) (t : TypeId) : B3 (T.heap.size + 1) x y z ((T.alloc o).alloc (.cells #[.int .i64 x, .int .i64 y, .int .i64 z] t)) := by
  have := B3.last (T.alloc o) x y z t
  rw [World.size_alloc] at this
  exact this
theorem B3.drew {b : Nat} {x y z : Int} {T : World} (h : B3 b x y z T) : B3 b x y z T.drew := h
theorem DT.drew {w T : World} (h : DT w T) : DT w T.drew := ⟨h.1.drew, h.2⟩
theorem DT.bel {w T : World} (h : DT w T) : Hid (Below w.heap.size w T) := h.1
theorem ds_drew {w : World} {x0 x1 y0 y1 : Option Value} {T : World} (h : T.cell? ⟨w.heap.size, 0, none⟩ = x0 ∧ T.cell? ⟨w.heap.size, 1, none⟩ = x1 ∧ T.cell? ⟨w.heap.size + 1, 0, none⟩ = y0 ∧ T.cell? ⟨w.heap.size + 1, 1, none⟩ = y1) :
    T.drew.cell? ⟨w.heap.size, 0, none⟩ = x0 ∧ T.drew.cell? ⟨w.heap.size, 1, none⟩ = x1 ∧ T.drew.cell? ⟨w.heap.size + 1, 0, none⟩ = y0 ∧ T.drew.cell? ⟨w.heap.size + 1, 1, none⟩ = y1 := h
/-- a call between: what stands in the new world -/
theorem of_arm {w T wa : World} {x0 x1 y0 y1 : Option Value} (hb : Below T.heap.size T wa) (h : T.cell? ⟨w.heap.size, 0, none⟩ = x0 ∧ T.cell? ⟨w.heap.size, 1, none⟩ = x1 ∧ T.cell? ⟨w.heap.size + 1, 0, none⟩ = y0 ∧ T.cell? ⟨w.heap.size + 1, 1, none⟩ = y1) (d : DT w T) :
    (wa.cell? ⟨w.heap.size, 0, none⟩ = x0 ∧ wa.cell? ⟨w.heap.size, 1, none⟩ = x1 ∧ wa.cell? ⟨w.heap.size + 1, 0, none⟩ = y0 ∧ wa.cell? ⟨w.heap.size + 1, 1, none⟩ = y1) ∧ DT w wa ∧ (∀ p : Addr, p.block < T.heap.size → wa.cell? p = T.cell? p) ∧ (∀ p : Addr, p.block < T.heap.size → wa.frozen? p = T.frozen? p) ∧ T.heap.size ≤ wa.heap.size :=
  ⟨ds_below hb d h, d.via hb, fun p hp => hb.cell hp, fun p hp => hb.frozen hp, hb.size⟩
set_option maxRecDepth 100000 in
set_option maxHeartbeats 4000000 in
theorem sdist_bad (la lo ma mo : Int) (w : World) (h : (vldB la lo && vldB ma mo) = false) :
    Calls Tryz.prog 10 #[.agg #[.int .i64 la, .int .i64 lo], .agg #[.int .i64 ma, .int .i64 mo]] w fun e w' => e = .returned (.tuple #[.int .i64 0, .int .i64 1]) ∧ Below w.heap.size w w' := by
  obtain ⟨W2, hW2⟩ : ∃ W2, (w.alloc (.cells #[.int .i64 la, .int .i64 lo] 24)).alloc (.cells #[.int .i64 ma, .int .i64 mo] 24) = W2 := ⟨_, rfl⟩
  have HB : Hid (Below w.heap.size w W2) := by rw [← hW2]; exact ((Below.refl _ _).alloc (Nat.le_refl _) _).alloc (by simp) _
  have HC : Hid (W2.cell? ⟨w.heap.size, 0, none⟩ = some (.int .i64 la) ∧ W2.cell? ⟨w.heap.size, 1, none⟩ = some (.int .i64 lo) ∧
      W2.cell? ⟨w.heap.size + 1, 0, none⟩ = some (.int .i64 ma) ∧ W2.cell? ⟨w.heap.size + 1, 1, none⟩ = some (.int .i64 mo) ∧ w.heap.size + 1 < W2.heap.size) := by rw [← hW2]; unfold Hid; simp [go_sem]
  obtain ⟨c0, c1, d0, d1, hsz⟩ := HC.out
  have hv1 := fun w => sValid_any la lo w
  have hv2 := fun w => sValid_any ma mo w
  cases h1 : vldB la lo
  · rw [h1] at hv1
    clear h h1 hv2
    go_enter Tryz.func10, Tryz.ntmps10
    go_wp2_with fail
    refine (hv1 _).mono ?_
    rintro e w1 ⟨rfl, hb1⟩
    have HE : Hid (Below w.heap.size w w1) := HB.out.trans (hb1.mono HB.out.size)
    clear hb1
    go_wp2
    go_ret2
    exact ⟨rfl, HE.out⟩
  · have h2 : vldB ma mo = false := by rw [h1] at h; exact h
    rw [h1] at hv1
    rw [h2] at hv2
    clear h h1 h2
    go_enter Tryz.func10, Tryz.ntmps10
    go_wp2_with fail
    refine (hv1 _).mono ?_
    rintro e w1 ⟨rfl, hb1⟩
    have HE : Hid (Below w.heap.size w w1) := HB.out.trans (hb1.mono HB.out.size)
    have e0 : w1.cell? ⟨w.heap.size + 1, 0, none⟩ = some (.int .i64 ma) := (hb1.cell (p := ⟨w.heap.size + 1, 0, none⟩) hsz).trans d0
    have e1 : w1.cell? ⟨w.heap.size + 1, 1, none⟩ = some (.int .i64 mo) := (hb1.cell (p := ⟨w.heap.size + 1, 1, none⟩) hsz).trans d1
    clear hb1
    go_wp2_with fail
    refine (hv2 _).mono ?_
    rintro e w2 ⟨rfl, hb2⟩
    have HE2 : Hid (Below w.heap.size w w2) := HE.out.trans (hb2.mono HE.out.size)
    clear hb2
    go_wp2
    go_ret2
    exact ⟨rfl, HE2.out⟩
theorem VecB.drewN {b : Nat} {u : V3} {w : World} (h : VecB b u w) (n : Nat) : VecB b u (w.drewN n) := h
theorem bel_drewN {B : Nat} {w w' : World} (h : Below B w w') (n : Nat) : Below B w (w'.drewN n) := ⟨h.1, h.2, h.3, h.4, h.5⟩
theorem mixedD : Tryz.prog.follows .mixedOrders = true := by kernel_rfl
/-! ### a region whose callees leave what was there -/
structure BelBy (w : World) where
  x : World
  h : Below w.heap.size w x
instance (w : World) : Inhabited (BelBy w) := ⟨⟨w, Below.refl _ w⟩⟩
theorem wp_region_quiet_bel {P : Program} {id : Nat} {Q : Exit → Act → World → Prop} {a : Act} {w : World} {l : List Oper} (hm : P.follows .mixedOrders = true) (hB : Region.lexB .any l.toArray = true)
    (h : wpQuiet P l.toArray (fun w' => ∃ p : BelBy w, w' = p.x) (fun a' => ∀ w', (∃ p : BelBy w, w' = p.x) → Q .normal a' w') l a) : (Code.region id l.toArray true).wp P Q a w :=
  wp_region_quiet (C := fun w' => ∃ p : BelBy w, w' = p.x) hm hB ⟨⟨w.drew, (Below.refl _ w).drew⟩, rfl⟩ (by simpa using h)
theorem Calls.bel_of {P : Program} {f : FuncId} {args : Array Value} {w : World} {p : BelBy w} {v : Value}
    (h : Calls P f args p.x fun e w' => e = .returned v ∧ Below p.x.heap.size p.x w') : Calls P f args p.x fun e w'' => e = .returned v ∧ ∃ q : BelBy w, w'' = q.x :=
  h.mono fun _ _ ⟨he, hb⟩ => ⟨he, ⟨⟨_, Below.then_ p.h hb⟩, rfl⟩⟩
theorem Calls.bel_same {P : Program} {f : FuncId} {args : Array Value} {w : World} {p : BelBy w} {v : Value}
    (h : Calls P f args p.x fun e w' => e = .returned v ∧ w' = p.x) : Calls P f args p.x fun e w'' => e = .returned v ∧ ∃ q : BelBy w, w'' = q.x :=
  h.mono fun _ _ ⟨he, hb⟩ => ⟨he, ⟨p, hb⟩⟩
theorem VecB.by {b : Nat} {u : V3} {w : World} (h : VecB b u w) : ∀ p : BelBy w, p.x.cell? ⟨b, 0, none⟩ = some (.int .i64 u.x) ∧ p.x.cell? ⟨b, 1, none⟩ = some (.int .i64 u.y) ∧ p.x.cell? ⟨b, 2, none⟩ = some (.int .i64 u.z) := fun p =>
  ⟨(p.h.cell (p := ⟨b, 0, none⟩) h.2.2.2).trans h.1, (p.h.cell (p := ⟨b, 1, none⟩) h.2.2.2).trans h.2.1, (p.h.cell (p := ⟨b, 2, none⟩) h.2.2.2).trans h.2.2.1⟩
set_option maxRecDepth 100000 in
set_option maxHeartbeats 40000000 in
theorem sdist_ok (la lo ma mo : Int) (w : World) (h1 : vldB la lo = true) (h2 : vldB ma mo = true) :
    Calls Tryz.prog 10 #[.agg #[.int .i64 la, .int .i64 lo], .agg #[.int .i64 ma, .int .i64 mo]] w fun e w' => e = .returned (.tuple #[.int .i64 (distV (vecOf la lo) (vecOf ma mo)), .int .i64 0]) ∧ Below w.heap.size w w' := by
  obtain ⟨W2, hW2⟩ : ∃ W2, (w.alloc (.cells #[.int .i64 la, .int .i64 lo] 24)).alloc (.cells #[.int .i64 ma, .int .i64 mo] 24) = W2 := ⟨_, rfl⟩
  have HB : Hid (Below w.heap.size w W2) := by rw [← hW2]; exact ((Below.refl _ _).alloc (Nat.le_refl _) _).alloc (by simp) _
  have HC : Hid (W2.cell? ⟨w.heap.size, 0, none⟩ = some (.int .i64 la) ∧ W2.cell? ⟨w.heap.size, 1, none⟩ = some (.int .i64 lo) ∧
      W2.cell? ⟨w.heap.size + 1, 0, none⟩ = some (.int .i64 ma) ∧ W2.cell? ⟨w.heap.size + 1, 1, none⟩ = some (.int .i64 mo) ∧ w.heap.size + 1 < W2.heap.size) := by rw [← hW2]; unfold Hid; simp [go_sem]
  obtain ⟨c0, c1, d0, d1, hsz⟩ := HC.out
  have hv1 := fun w => sValid_any la lo w
  have hv2 := fun w => sValid_any ma mo w
  have o1 := fun w => of_any la lo w h1
  have o2 := fun w => of_any ma mo w h2
  rw [h1] at hv1
  rw [h2] at hv2
  obtain ⟨u, hu⟩ : ∃ u, vecOf la lo = u := ⟨_, rfl⟩
  obtain ⟨v, hv⟩ : ∃ v, vecOf ma mo = v := ⟨_, rfl⟩
  have HU : Hid u.Ok := hu ▸ vec_ok la lo
  have HV : Hid v.Ok := hv ▸ vec_ok ma mo
  rw [hu] at o1
  rw [hv] at o2
  rw [hu, hv]
  clear hu hv h1 h2
  obtain ⟨dist, hdist⟩ : ∃ d, distV u v = d := ⟨_, rfl⟩
  have HD := Lib.hid hdist
  rw [hdist]
  clear hdist
  go_enter Tryz.func10, Tryz.ntmps10
  go_wp2_with fail
  refine (hv1 _).mono ?_
  rintro e w1 ⟨rfl, hb1⟩
  have HE : Hid (Below w.heap.size w w1) := HB.out.trans (hb1.mono HB.out.size)
  have k0 : w1.cell? ⟨w.heap.size, 0, none⟩ = some (.int .i64 la) := (hb1.cell (p := ⟨w.heap.size, 0, none⟩) (by show w.heap.size < _; omega)).trans c0
  have k1 : w1.cell? ⟨w.heap.size, 1, none⟩ = some (.int .i64 lo) := (hb1.cell (p := ⟨w.heap.size, 1, none⟩) (by show w.heap.size < _; omega)).trans c1
  have e0 : w1.cell? ⟨w.heap.size + 1, 0, none⟩ = some (.int .i64 ma) := (hb1.cell (p := ⟨w.heap.size + 1, 0, none⟩) hsz).trans d0
  have e1 : w1.cell? ⟨w.heap.size + 1, 1, none⟩ = some (.int .i64 mo) := (hb1.cell (p := ⟨w.heap.size + 1, 1, none⟩) hsz).trans d1
  have hsz1 : w.heap.size + 1 < w1.heap.size := Nat.lt_of_lt_of_le hsz hb1.size
  clear hb1 c0 c1 d0 d1 hsz hW2 HB HC
  go_wp2_with fail
  refine (hv2 _).mono ?_
  rintro e w2 ⟨rfl, hb2⟩
  have HE2 : Hid (Below w.heap.size w w2) := HE.out.trans (hb2.mono HE.out.size)
  have c0 : w2.cell? ⟨w.heap.size, 0, none⟩ = some (.int .i64 la) := (hb2.cell (p := ⟨w.heap.size, 0, none⟩) (by show w.heap.size < _; omega)).trans k0
  have c1 : w2.cell? ⟨w.heap.size, 1, none⟩ = some (.int .i64 lo) := (hb2.cell (p := ⟨w.heap.size, 1, none⟩) (by show w.heap.size < _; omega)).trans k1
  have d0 : w2.cell? ⟨w.heap.size + 1, 0, none⟩ = some (.int .i64 ma) := (hb2.cell (p := ⟨w.heap.size + 1, 0, none⟩) hsz1).trans e0
  have d1 : w2.cell? ⟨w.heap.size + 1, 1, none⟩ = some (.int .i64 mo) := (hb2.cell (p := ⟨w.heap.size + 1, 1, none⟩) hsz1).trans e1
  have hsz : w.heap.size + 1 < w2.heap.size := Nat.lt_of_lt_of_le hsz1 hb2.size
  clear hb2 k0 k1 e0 e1 hsz1 HE
  go_wp2_with fail
  unfold vcV at o1 o2
  clear hv1 hv2
  go_cut [6, 7] from 23 to 26 (fun a b wx => ∃ p q, a = .pointer (some ⟨p, 0, none⟩) ∧ b = .pointer (some ⟨q, 0, none⟩) ∧ Hid (Below w.heap.size w wx) ∧ Hid (VecB p u wx) ∧ Hid (VecB q v wx))
  · have HS0 : w2.drew.cell? ⟨w.heap.size, 0, none⟩ = some (.int .i64 la) ∧ w2.drew.cell? ⟨w.heap.size, 1, none⟩ = some (.int .i64 lo) ∧ w2.drew.cell? ⟨w.heap.size + 1, 0, none⟩ = some (.int .i64 ma) ∧ w2.drew.cell? ⟨w.heap.size + 1, 1, none⟩ = some (.int .i64 mo) := ⟨c0, c1, d0, d1⟩
    have HS00 : w2.cell? ⟨w.heap.size, 0, none⟩ = some (.int .i64 la) ∧ w2.cell? ⟨w.heap.size, 1, none⟩ = some (.int .i64 lo) ∧ w2.cell? ⟨w.heap.size + 1, 0, none⟩ = some (.int .i64 ma) ∧ w2.cell? ⟨w.heap.size + 1, 1, none⟩ = some (.int .i64 mo) := ⟨c0, c1, d0, d1⟩
    have D0 : DT w w2.drew := ⟨HE2.out.drew, hsz⟩
    have D00 : DT w w2 := ⟨HE2.out, hsz⟩
    clear c0 c1 d0 d1 hsz HE2
    go_region_held3 (fun wx => wx.cell? ⟨w.heap.size, 0, none⟩ = some (.int .i64 la) ∧ wx.cell? ⟨w.heap.size, 1, none⟩ = some (.int .i64 lo) ∧ wx.cell? ⟨w.heap.size + 1, 0, none⟩ = some (.int .i64 ma) ∧ wx.cell? ⟨w.heap.size + 1, 1, none⟩ = some (.int .i64 mo))
      (repeat (first
      | with_reducible assumption
      | with_reducible refine ds_drew ?_
      | with_reducible refine ds_set _ _ (by with_reducible first | exact new_gt (by assumption) | exact new_gt1 (by assumption)) ?_
      | with_reducible refine ds_alloc _ (by repeat (first | with_reducible assumption | with_reducible (first | refine DT.alloc _ ?_ | refine DT.drew ?_) | with_reducible refine DT.setCell _ _ (by with_reducible first | exact new_le (by assumption) | exact new_le1 (by assumption)) ?_)) ?_))
      (first
      | (go_at_call 22; (first | with_reducible refine (o1 _).mono ?_ | with_reducible refine (o2 _).mono ?_); rintro e wa ⟨rfl, hb⟩; have hA := of_arm hb (by with_reducible assumption) (by repeat (first | with_reducible assumption | with_reducible (first | refine DT.alloc _ ?_ | refine DT.drew ?_))); obtain ⟨hS, D0, hk, hf, hle⟩ := hA;
         (first | (with_reducible have hz1 := B3.via hb (B3.grow (B3.last _ _ _ _ _) _)) | (with_reducible have hz1 := B3.via hb (B3.drew (B3.grow (B3.last _ _ _ _ _) _))) | skip);
         (try (with_reducible have hz1 := B3.via hb (B3.grow hz2 _)));
         (try (with_reducible have hz1 := B3.via hb hz1));
         (try (with_reducible have hz2 := B3.via hb hz2));
         (first | (with_reducible have hz2 := B3.via hb (B3.last2 _ _ _ _ _ _)) | (with_reducible have hz2 := B3.via hb (B3.last _ _ _ _ _)) | (with_reducible have hz2 := B3.via hb (B3.drew (B3.last2 _ _ _ _ _ _))) | (with_reducible have hz2 := B3.via hb (B3.drew (B3.last _ _ _ _ _))) | skip);
         (try (have hy := hz1; obtain ⟨y0, y1, y2, y3, y4, y5, y6⟩ := hy)); (try (have hy := hz2; obtain ⟨x0, x1, x2, x3, x4, x5, x6⟩ := hy)); clear hb hk hf)
      | fail)
    all_goals go_wp2
    all_goals go_meet
    all_goals refine ⟨_, _, rfl, rfl, ?_, ?_, ?_⟩
    all_goals first
      | (refine (DT.bel ?_); (repeat (first | with_reducible assumption | with_reducible (first | refine DT.alloc _ ?_ | refine DT.drew ?_) | with_reducible refine DT.setCell _ _ (by with_reducible first | exact new_le (by assumption) | exact new_le1 (by assumption)) ?_)); done)
      | (unfold Hid VecB; refine ⟨?_, ?_, ?_, ?_⟩ <;> simp [go_sem, *] <;> done)
      | skip
  · obtain ⟨p, q, rfl, rfl, HB1, HU1, HV1⟩ := hcut
    have P := pair_ok HU.out HV.out
    have p1 := prod_bd _ _ HU.out.y HV.out.z
    have p2 := prod_bd _ _ HU.out.z HV.out.y
    have p3 := prod_bd _ _ HU.out.z HV.out.x
    have p4 := prod_bd _ _ HU.out.x HV.out.z
    have p5 := prod_bd _ _ HU.out.x HV.out.y
    have p6 := prod_bd _ _ HU.out.y HV.out.x
    obtain ⟨hq1, hq2, hq3, hnz⟩ := P
    have hdo : ∀ W, Calls Tryz.prog 27 #[vcV u, vcV v] W fun e w' => e = .returned (.int .i64 (rnd (u.dot v))) ∧ Below W.heap.size W w' := fun W => sdot_any u v W HU.out HV.out
    obtain ⟨dd, hdd⟩ : ∃ d, rnd (u.dot v) = d := ⟨_, rfl⟩
    have hdb : -2147483647 ≤ dd ∧ dd ≤ 2147483647 := by rw [← hdd]; unfold rnd; omega
    have HD1 : Hid (atZ (isq (rnd (u.c1 v).natAbs * rnd (u.c1 v).natAbs + rnd (u.c2 v).natAbs * rnd (u.c2 v).natAbs + rnd (u.c3 v).natAbs * rnd (u.c3 v).natAbs).toNat) (rnd (u.dot v)) = dist) := HD.out
    rw [hdd] at hdo hnz HD1
    have k1 : u.c1 v = u.y * v.z - u.z * v.y := rfl
    have k2 : u.c2 v = u.z * v.x - u.x * v.z := rfl
    have k3 : u.c3 v = u.x * v.y - u.y * v.x := rfl
    rw [k1, k2, k3] at hq3 hnz HD1
    unfold vcV at hdo
    unfold VecB at HU1 HV1
    clear k1 k2 k3 hdd hq1 hq2 HU HV HD o1 o2
    obtain ⟨ux, uy, uz⟩ := u
    obtain ⟨vx, vy, vz⟩ := v
    simp only at p1 p2 p3 p4 p5 p6 hq3 hnz hdo HD1 HU1 HV1
    obtain ⟨a1, ha1⟩ : ∃ a, uy * vz = a := ⟨_, rfl⟩
    obtain ⟨a2, ha2⟩ : ∃ a, uz * vy = a := ⟨_, rfl⟩
    obtain ⟨a3, ha3⟩ : ∃ a, uz * vx = a := ⟨_, rfl⟩
    obtain ⟨a4, ha4⟩ : ∃ a, ux * vz = a := ⟨_, rfl⟩
    obtain ⟨a5, ha5⟩ : ∃ a, ux * vy = a := ⟨_, rfl⟩
    obtain ⟨a6, ha6⟩ : ∃ a, uy * vx = a := ⟨_, rfl⟩
    rw [ha1, ha2, ha3, ha4, ha5, ha6] at hq3 hnz HD1
    rw [ha1] at p1
    rw [ha2] at p2
    rw [ha3] at p3
    rw [ha4] at p4
    rw [ha5] at p5
    rw [ha6] at p6
    have A1 := fun W => abs_any (a1 - a2) W (by omega) (by omega)
    have A2 := fun W => abs_any (a3 - a4) W (by omega) (by omega)
    have A3 := fun W => abs_any (a5 - a6) W (by omega) (by omega)
    have R1 := fun W => sround_any ((a1 - a2).natAbs : Int) W (by omega) (by omega)
    have R2 := fun W => sround_any ((a3 - a4).natAbs : Int) W (by omega) (by omega)
    have R3 := fun W => sround_any ((a5 - a6).natAbs : Int) W (by omega) (by omega)
    have n1 : 0 ≤ rnd ((a1 - a2).natAbs : Int) ∧ rnd ((a1 - a2).natAbs : Int) ≤ 2147483648 := by unfold rnd; omega
    have n2 : 0 ≤ rnd ((a3 - a4).natAbs : Int) ∧ rnd ((a3 - a4).natAbs : Int) ≤ 2147483648 := by unfold rnd; omega
    have n3 : 0 ≤ rnd ((a5 - a6).natAbs : Int) ∧ rnd ((a5 - a6).natAbs : Int) ≤ 2147483648 := by unfold rnd; omega
    obtain ⟨m1, hm1⟩ : ∃ m, rnd ((a1 - a2).natAbs : Int) = m := ⟨_, rfl⟩
    obtain ⟨m2, hm2⟩ : ∃ m, rnd ((a3 - a4).natAbs : Int) = m := ⟨_, rfl⟩
    obtain ⟨m3, hm3⟩ : ∃ m, rnd ((a5 - a6).natAbs : Int) = m := ⟨_, rfl⟩
    rw [hm1] at n1 R1
    rw [hm2] at n2 R2
    rw [hm3] at n3 R3
    rw [hm1, hm2, hm3] at hq3 hnz HD1
    clear hm1 hm2 hm3
    have z1 := sq_nonneg m1
    have z2 := sq_nonneg m2
    have z3 := sq_nonneg m3
    have y1 : m1 * m1 = 0 → m1 = 0 := fun h => by rcases Int.mul_eq_zero.1 h with h | h <;> exact h
    have y2 : m2 * m2 = 0 → m2 = 0 := fun h => by rcases Int.mul_eq_zero.1 h with h | h <;> exact h
    have y3 : m3 * m3 = 0 → m3 = 0 := fun h => by rcases Int.mul_eq_zero.1 h with h | h <;> exact h
    obtain ⟨q1, hs1⟩ : ∃ a, m1 * m1 = a := ⟨_, rfl⟩
    obtain ⟨q2, hs2⟩ : ∃ a, m2 * m2 = a := ⟨_, rfl⟩
    obtain ⟨q3, hs3⟩ : ∃ a, m3 * m3 = a := ⟨_, rfl⟩
    rw [hs1] at z1 y1
    rw [hs2] at z2 y2
    rw [hs3] at z3 y3
    rw [hs1, hs2, hs3] at hq3 HD1
    obtain ⟨N, hN⟩ : ∃ N : Nat, (N : Int) = q1 + q2 + q3 := ⟨(q1 + q2 + q3).toNat, by omega⟩
    have hNt : (q1 + q2 + q3).toNat = N := by omega
    rw [hNt] at HD1
    have SQ := fun W => sqrt_any N W (by omega)
    have hrb : (isq N : Int) ≤ 2147483647 := by have := isq_bd (n := N) (by omega); omega
    have hr0 : 0 ≤ (isq N : Int) := by omega
    have AT := fun W => atan_any (isq N : Int) dd W hr0 hrb hdb.1 hdb.2 (fun ⟨h1, h2⟩ => hnz (by
      have h3 : N = 0 := isq_zero (by omega)
      exact ⟨y1 (by omega), y2 (by omega), y3 (by omega), h1⟩))
    rw [HD1.out] at AT
    obtain ⟨r, hr⟩ : ∃ r, (isq N : Int) = r := ⟨_, rfl⟩
    rw [hr] at AT SQ
    rw [hN] at SQ
    clear HD1 hnz hrb hr0 hr y1 y2 y3 hN hNt hdb
    go_wp2
    go_loopg [8, 27] 3 (fun g a b wr => ((b = .int .i64 0 ∧ a = .int .i64 0 ∧ 3 ≤ g) ∨ (b = .int .i64 1 ∧ a = .int .i64 q1 ∧ 2 ≤ g) ∨ (b = .int .i64 2 ∧ a = .int .i64 (q1 + q2) ∧ 1 ≤ g) ∨ (b = .int .i64 3 ∧ a = .int .i64 (q1 + q2 + q3))) ∧ Hid (Below w.heap.size w wr) ∧ Hid (VecB p ⟨ux, uy, uz⟩ wr) ∧ Hid (VecB q ⟨vx, vy, vz⟩ wr))
    case atStart => exact ⟨.inl ⟨rfl, rfl, Nat.le_refl _⟩, HB1, HU1, HV1⟩
    case round =>
      obtain ⟨hc, hb, hu, hv⟩ := hrel
      obtain ⟨c0, c1, c2, c3⟩ := hu.out
      obtain ⟨d0, d1, d2, d3⟩ := hv.out
      simp only at c0 c1 c2 d0 d1 d2
      rcases hc with ⟨rfl, rfl, hg⟩ | ⟨rfl, rfl, hg⟩ | ⟨rfl, rfl, hg⟩ | ⟨rfl, rfl⟩
      · go_wp2_with fail
        go_quiet (first | (go_at_call 24; exact Calls.quiet_of_same ((A1 _).mono fun e w' ⟨h1, h2⟩ => ⟨h1, h2.symm⟩)) | (go_at_call 23; exact Calls.quiet_of_same ((R1 _).mono fun e w' ⟨h1, h2⟩ => ⟨h1, h2.symm⟩)))
        go_wp2
        go_roundg (2)
        case measure => omega
        case rel => exact ⟨.inr (.inl ⟨by go_num, by go_num, Nat.le_refl _⟩), bel_drewN hb.out _, hu.out.drewN _, hv.out.drewN _⟩
      · go_wp2_with fail
        go_quiet (first | (go_at_call 24; exact Calls.quiet_of_same ((A2 _).mono fun e w' ⟨h1, h2⟩ => ⟨h1, h2.symm⟩)) | (go_at_call 23; exact Calls.quiet_of_same ((R2 _).mono fun e w' ⟨h1, h2⟩ => ⟨h1, h2.symm⟩)))
        go_wp2
        go_roundg (1)
        case measure => omega
        case rel => exact ⟨.inr (.inr (.inl ⟨by go_num, by go_num, Nat.le_refl _⟩)), bel_drewN hb.out _, hu.out.drewN _, hv.out.drewN _⟩
      · go_wp2_with fail
        go_quiet (first | (go_at_call 24; exact Calls.quiet_of_same ((A3 _).mono fun e w' ⟨h1, h2⟩ => ⟨h1, h2.symm⟩)) | (go_at_call 23; exact Calls.quiet_of_same ((R3 _).mono fun e w' ⟨h1, h2⟩ => ⟨h1, h2.symm⟩)))
        go_wp2
        go_roundg (0)
        case measure => omega
        case rel => exact ⟨.inr (.inr (.inr ⟨by go_num, by go_num⟩)), bel_drewN hb.out _, hu.out.drewN _, hv.out.drewN _⟩
      · have F0 := fun p => (hu.out.by p).1
        have F1 := fun p => (hu.out.by p).2.1
        have F2 := fun p => (hu.out.by p).2.2
        have G0 := fun p => (hv.out.by p).1
        have G1 := fun p => (hv.out.by p).2.1
        have G2 := fun p => (hv.out.by p).2.2
        have mixed := mixedD
        simp only at F0 F1 F2 G0 G1 G2
        go_wp2_with fail
        refine wp_region_quiet_bel (by assumption) (by kernel_rfl) ?_
        repeat (quiet_step (first
          | (go_at_call 26; exact Calls.bel_same (SQ _))
          | (go_at_call 27; exact Calls.bel_of (hdo _))
          | (go_at_call 25; exact Calls.bel_of (AT _))))
        refine wpQuiet_nil ?_
        rintro wz ⟨pz, hz⟩
        have HE : Hid (Below w.heap.size w wz) := by rw [hz]; exact Below.then_ hb.out pz.h
        clear hz pz F0 F1 F2 G0 G1 G2
        go_wp2
        go_ret2
        exact ⟨rfl, HE.out⟩
end Go.Proofs.YteojggbmkppjoaaGreatDoor
namespace Go.Proofs.YteojggbmkppjoaaGreatDoor
open Go.RowKit
set_option linter.unusedVariables false
set_option linter.unusedSimpArgs false
theorem rOf_some (la lo : Int) : ∃ (u : V3) (e : Int), ∀ w, Calls Tryz.prog 44 #[.agg #[.int .i64 la, .int .i64 lo]] w fun x w' => x = .returned (.tuple #[vcV u, .int .i64 e]) ∧ Below w.heap.size w w' := by
  cases h : vldB la lo
  · exact ⟨_, _, fun w => rOf_bad la lo w h⟩
  · exact ⟨_, _, fun w => rOf_ok la lo w h⟩
set_option maxRecDepth 100000 in
set_option maxHeartbeats 4000000 in
theorem rdist_bad (la lo ma mo : Int) (w : World) (h : (vldB la lo && vldB ma mo) = false) :
    Calls Tryz.prog 19 #[.agg #[.int .i64 la, .int .i64 lo], .agg #[.int .i64 ma, .int .i64 mo]] w fun e w' => e = .returned (.tuple #[.int .i64 0, .int .i64 1]) ∧ Below w.heap.size w w' := by
  obtain ⟨W2, hW2⟩ : ∃ W2, (w.alloc (.cells #[.int .i64 la, .int .i64 lo] 24)).alloc (.cells #[.int .i64 ma, .int .i64 mo] 24) = W2 := ⟨_, rfl⟩
  have HB : Hid (Below w.heap.size w W2) := by rw [← hW2]; exact ((Below.refl _ _).alloc (Nat.le_refl _) _).alloc (by simp) _
  have HC : Hid (W2.cell? ⟨w.heap.size, 0, none⟩ = some (.int .i64 la) ∧ W2.cell? ⟨w.heap.size, 1, none⟩ = some (.int .i64 lo) ∧
      W2.cell? ⟨w.heap.size + 1, 0, none⟩ = some (.int .i64 ma) ∧ W2.cell? ⟨w.heap.size + 1, 1, none⟩ = some (.int .i64 mo) ∧ w.heap.size + 1 < W2.heap.size) := by rw [← hW2]; unfold Hid; simp [go_sem]
  obtain ⟨c0, c1, d0, d1, hsz⟩ := HC.out
  have key : ∀ (u v : V3) (eu ev : Int), (eu = 1 ∨ eu = 0 ∧ ev = 1) → (∀ w, Calls Tryz.prog 44 #[.agg #[.int .i64 la, .int .i64 lo]] w fun x w' => x = .returned (.tuple #[vcV u, .int .i64 eu]) ∧ Below w.heap.size w w') →
      (∀ w, Calls Tryz.prog 44 #[.agg #[.int .i64 ma, .int .i64 mo]] w fun x w' => x = .returned (.tuple #[vcV v, .int .i64 ev]) ∧ Below w.heap.size w w') →
      Calls Tryz.prog 19 #[.agg #[.int .i64 la, .int .i64 lo], .agg #[.int .i64 ma, .int .i64 mo]] w fun e w' => e = .returned (.tuple #[.int .i64 0, .int .i64 1]) ∧ Below w.heap.size w w' := by
    intro u v eu ev he o1 o2
    unfold vcV at o1 o2
    go_enter Tryz.func19, Tryz.ntmps19
    go_wp2_with fail
    refine (o1 _).mono ?_
    rintro e w1 ⟨rfl, hb1⟩
    have HE : Hid (Below w.heap.size w w1) := HB.out.trans (hb1.mono HB.out.size)
    have e0 : w1.cell? ⟨w.heap.size + 1, 0, none⟩ = some (.int .i64 ma) := (hb1.cell (p := ⟨w.heap.size + 1, 0, none⟩) hsz).trans d0
    have e1 : w1.cell? ⟨w.heap.size + 1, 1, none⟩ = some (.int .i64 mo) := (hb1.cell (p := ⟨w.heap.size + 1, 1, none⟩) hsz).trans d1
    have hsz1 : w.heap.size + 1 < w1.heap.size := Nat.lt_of_lt_of_le hsz hb1.size
    clear hb1 c0 c1 d0 d1 hsz hW2 HB HC
    go_wp2_with fail
    refine (o2 _).mono ?_
    rintro e w2 ⟨rfl, hb2⟩
    have HE2 : Hid (Below w.heap.size w w2) := by have := HE.out.size; first | exact (HE.out.alloc HE.out.size _).trans (hb2.mono (by simp; omega)) | exact Below.then_ (HE.out.alloc HE.out.size _) hb2
    clear hb2
    have HE3 := Lib.hid (fun o => HE2.out.alloc HE2.out.size o)
    clear o1 o2 HE HE2
    rcases he with rfl | ⟨rfl, rfl⟩
    · go_wp2
      go_ret2
      exact ⟨rfl, HE3.out _⟩
    · go_wp2
      go_ret2
      exact ⟨rfl, HE3.out _⟩
  cases h1 : vldB la lo
  · obtain ⟨v, ev, hv⟩ := rOf_some ma mo
    exact key _ v 1 ev (.inl rfl) (fun w => rOf_bad la lo w h1) hv
  · have h2 : vldB ma mo = false := by rw [h1] at h; exact h
    exact key _ _ 0 1 (.inr ⟨rfl, rfl⟩) (fun w => rOf_ok la lo w h1) (fun w => rOf_bad ma mo w h2)
theorem VecB.last (T : World) (u : V3) (t : TypeId) : VecB T.heap.size u (T.alloc (.cells #[.int .i64 u.x, .int .i64 u.y, .int .i64 u.z] t)) := by
  obtain ⟨h0, h1, h2, _, _, _, hl⟩ := B3.last T u.x u.y u.z t
  exact ⟨h0, h1, h2, hl⟩
theorem VecB.via {b : Nat} {u : V3} {T wa : World} (hb : Below T.heap.size T wa) (h : VecB b u T) : VecB b u wa :=
  ⟨(hb.cell (p := ⟨b, 0, none⟩) h.2.2.2).trans h.1, (hb.cell (p := ⟨b, 1, none⟩) h.2.2.2).trans h.2.1, (hb.cell (p := ⟨b, 2, none⟩) h.2.2.2).trans h.2.2.1, Nat.lt_of_lt_of_le h.2.2.2 hb.size⟩
set_option maxRecDepth 100000 in
set_option maxHeartbeats 40000000 in
theorem rdist_ok (la lo ma mo : Int) (w : World) (h1 : vldB la lo = true) (h2 : vldB ma mo = true) :
    Calls Tryz.prog 19 #[.agg #[.int .i64 la, .int .i64 lo], .agg #[.int .i64 ma, .int .i64 mo]] w fun e w' => e = .returned (.tuple #[.int .i64 (distV (vecOf la lo) (vecOf ma mo)), .int .i64 0]) ∧ Below w.heap.size w w' := by
  obtain ⟨W2, hW2⟩ : ∃ W2, (w.alloc (.cells #[.int .i64 la, .int .i64 lo] 24)).alloc (.cells #[.int .i64 ma, .int .i64 mo] 24) = W2 := ⟨_, rfl⟩
  have HB : Hid (Below w.heap.size w W2) := by rw [← hW2]; exact ((Below.refl _ _).alloc (Nat.le_refl _) _).alloc (by simp) _
  have HC : Hid (W2.cell? ⟨w.heap.size, 0, none⟩ = some (.int .i64 la) ∧ W2.cell? ⟨w.heap.size, 1, none⟩ = some (.int .i64 lo) ∧
      W2.cell? ⟨w.heap.size + 1, 0, none⟩ = some (.int .i64 ma) ∧ W2.cell? ⟨w.heap.size + 1, 1, none⟩ = some (.int .i64 mo) ∧ w.heap.size + 1 < W2.heap.size) := by rw [← hW2]; unfold Hid; simp [go_sem]
  obtain ⟨c0, c1, d0, d1, hsz⟩ := HC.out
  have o1 := fun w => rOf_ok la lo w h1
  have o2 := fun w => rOf_ok ma mo w h2
  obtain ⟨u, hu⟩ : ∃ u, vecOf la lo = u := ⟨_, rfl⟩
  obtain ⟨v, hv⟩ : ∃ v, vecOf ma mo = v := ⟨_, rfl⟩
  have HU : Hid u.Ok := hu ▸ vec_ok la lo
  have HV : Hid v.Ok := hv ▸ vec_ok ma mo
  rw [hu] at o1
  rw [hv] at o2
  rw [hu, hv]
  clear hu hv h1 h2
  obtain ⟨dist, hdist⟩ : ∃ d, distV u v = d := ⟨_, rfl⟩
  have HD := Lib.hid hdist
  rw [hdist]
  clear hdist
  unfold vcV at o1 o2
  go_enter Tryz.func19, Tryz.ntmps19
  go_wp2_with fail
  refine (o1 _).mono ?_
  rintro e w1 ⟨rfl, hb1⟩
  have HE : Hid (Below w.heap.size w w1) := HB.out.trans (hb1.mono HB.out.size)
  have e0 : w1.cell? ⟨w.heap.size + 1, 0, none⟩ = some (.int .i64 ma) := (hb1.cell (p := ⟨w.heap.size + 1, 0, none⟩) hsz).trans d0
  have e1 : w1.cell? ⟨w.heap.size + 1, 1, none⟩ = some (.int .i64 mo) := (hb1.cell (p := ⟨w.heap.size + 1, 1, none⟩) hsz).trans d1
  have hsz1 : w.heap.size + 1 < w1.heap.size := Nat.lt_of_lt_of_le hsz hb1.size
  clear hb1 c0 c1 d0 d1 hsz hW2 HB HC
  have HL1 := Lib.hid (VecB.last w1 u 56)
  go_wp2_with fail
  refine (o2 _).mono ?_
  rintro e w2 ⟨rfl, hb2⟩
  have HU2 : Hid (VecB w1.heap.size u w2) := VecB.via hb2 HL1.out
  have HE2 : Hid (Below w.heap.size w w2) := Below.then_ (HE.out.alloc HE.out.size _) hb2
  clear hb2 HL1 e0 e1 hsz1
  obtain ⟨b1, hb1⟩ : ∃ b, w1.heap.size = b := ⟨_, rfl⟩
  rw [hb1] at HU2 ⊢
  clear hb1 HE w1
  have HU3 : Hid (VecB b1 u (w2.alloc (.cells #[.int .i64 v.x, .int .i64 v.y, .int .i64 v.z] 56))) := VecB.via ((Below.refl _ w2).alloc (Nat.le_refl _) _) HU2.out
  have HV3 : Hid (VecB w2.heap.size v (w2.alloc (.cells #[.int .i64 v.x, .int .i64 v.y, .int .i64 v.z] 56))) := VecB.last w2 v _
  have HE3 : Hid (Below w.heap.size w (w2.alloc (.cells #[.int .i64 v.x, .int .i64 v.y, .int .i64 v.z] 56))) := HE2.out.alloc HE2.out.size _
  have P := pair_ok HU.out HV.out
  have p1 := prod_bd _ _ HU.out.y HV.out.z
  have p2 := prod_bd _ _ HU.out.z HV.out.y
  have p3 := prod_bd _ _ HU.out.z HV.out.x
  have p4 := prod_bd _ _ HU.out.x HV.out.z
  have p5 := prod_bd _ _ HU.out.x HV.out.y
  have p6 := prod_bd _ _ HU.out.y HV.out.x
  obtain ⟨hq1, hq2, hq3, hnz⟩ := P
  have hdo : ∀ W, Calls Tryz.prog 48 #[vcV u, vcV v] W fun e w' => e = .returned (.int .i64 (rnd (u.dot v))) ∧ Below W.heap.size W w' := fun W => rdot_any u v W HU.out HV.out
  obtain ⟨dd, hdd⟩ : ∃ d, rnd (u.dot v) = d := ⟨_, rfl⟩
  have hdb : -2147483647 ≤ dd ∧ dd ≤ 2147483647 := by rw [← hdd]; unfold rnd; omega
  have HD1 : Hid (atZ (isq (rnd (u.c1 v).natAbs * rnd (u.c1 v).natAbs + rnd (u.c2 v).natAbs * rnd (u.c2 v).natAbs + rnd (u.c3 v).natAbs * rnd (u.c3 v).natAbs).toNat) (rnd (u.dot v)) = dist) := HD.out
  rw [hdd] at hdo hnz HD1
  have k1 : u.c1 v = u.y * v.z - u.z * v.y := rfl
  have k2 : u.c2 v = u.z * v.x - u.x * v.z := rfl
  have k3 : u.c3 v = u.x * v.y - u.y * v.x := rfl
  rw [k1, k2, k3] at hq3 hnz HD1
  unfold vcV at hdo
  clear k1 k2 k3 hdd hq1 hq2 HU HV HD o1 o2
  obtain ⟨ux, uy, uz⟩ := u
  obtain ⟨vx, vy, vz⟩ := v
  simp only at p1 p2 p3 p4 p5 p6 hq3 hnz hdo HD1 HU2 HU3 HV3 HE3 ⊢
  obtain ⟨a1, ha1⟩ : ∃ a, uy * vz = a := ⟨_, rfl⟩
  obtain ⟨a2, ha2⟩ : ∃ a, uz * vy = a := ⟨_, rfl⟩
  obtain ⟨a3, ha3⟩ : ∃ a, uz * vx = a := ⟨_, rfl⟩
  obtain ⟨a4, ha4⟩ : ∃ a, ux * vz = a := ⟨_, rfl⟩
  obtain ⟨a5, ha5⟩ : ∃ a, ux * vy = a := ⟨_, rfl⟩
  obtain ⟨a6, ha6⟩ : ∃ a, uy * vx = a := ⟨_, rfl⟩
  rw [ha1, ha2, ha3, ha4, ha5, ha6] at hq3 hnz HD1
  rw [ha1] at p1
  rw [ha2] at p2
  rw [ha3] at p3
  rw [ha4] at p4
  rw [ha5] at p5
  rw [ha6] at p6
  have R1 := fun W => rpart_any (a1 - a2) W (by omega) (by omega)
  have R2 := fun W => rpart_any (a3 - a4) W (by omega) (by omega)
  have R3 := fun W => rpart_any (a5 - a6) W (by omega) (by omega)
  have n1 : 0 ≤ rnd ((a1 - a2).natAbs : Int) ∧ rnd ((a1 - a2).natAbs : Int) ≤ 2147483648 := by unfold rnd; omega
  have n2 : 0 ≤ rnd ((a3 - a4).natAbs : Int) ∧ rnd ((a3 - a4).natAbs : Int) ≤ 2147483648 := by unfold rnd; omega
  have n3 : 0 ≤ rnd ((a5 - a6).natAbs : Int) ∧ rnd ((a5 - a6).natAbs : Int) ≤ 2147483648 := by unfold rnd; omega
  obtain ⟨m1, hm1⟩ : ∃ m, rnd ((a1 - a2).natAbs : Int) = m := ⟨_, rfl⟩
  obtain ⟨m2, hm2⟩ : ∃ m, rnd ((a3 - a4).natAbs : Int) = m := ⟨_, rfl⟩
  obtain ⟨m3, hm3⟩ : ∃ m, rnd ((a5 - a6).natAbs : Int) = m := ⟨_, rfl⟩
  rw [hm1] at n1 R1
  rw [hm2] at n2 R2
  rw [hm3] at n3 R3
  rw [hm1, hm2, hm3] at hq3 hnz HD1
  clear hm1 hm2 hm3
  have z1 := sq_nonneg m1
  have z2 := sq_nonneg m2
  have z3 := sq_nonneg m3
  have y1 : m1 * m1 = 0 → m1 = 0 := fun h => by rcases Int.mul_eq_zero.1 h with h | h <;> exact h
  have y2 : m2 * m2 = 0 → m2 = 0 := fun h => by rcases Int.mul_eq_zero.1 h with h | h <;> exact h
  have y3 : m3 * m3 = 0 → m3 = 0 := fun h => by rcases Int.mul_eq_zero.1 h with h | h <;> exact h
  obtain ⟨q1, hs1⟩ : ∃ a, m1 * m1 = a := ⟨_, rfl⟩
  obtain ⟨q2, hs2⟩ : ∃ a, m2 * m2 = a := ⟨_, rfl⟩
  obtain ⟨q3, hs3⟩ : ∃ a, m3 * m3 = a := ⟨_, rfl⟩
  rw [hs1] at z1 y1
  rw [hs2] at z2 y2
  rw [hs3] at z3 y3
  rw [hs1, hs2, hs3] at hq3 HD1
  obtain ⟨N, hN⟩ : ∃ N : Nat, (N : Int) = q1 + q2 + q3 := ⟨(q1 + q2 + q3).toNat, by omega⟩
  have hNt : (q1 + q2 + q3).toNat = N := by omega
  rw [hNt] at HD1
  have SQ := fun W => rsqrt_any N W (by omega)
  have hrb : (isq N : Int) ≤ 2147483647 := by have := isq_bd (n := N) (by omega); omega
  have hr0 : 0 ≤ (isq N : Int) := by omega
  have AT := fun W => ratan_any (isq N : Int) dd W hr0 hrb hdb.1 hdb.2 (fun ⟨h1, h2⟩ => hnz (by
    have h3 : N = 0 := isq_zero (by omega)
    exact ⟨y1 (by omega), y2 (by omega), y3 (by omega), h1⟩))
  rw [HD1.out] at AT
  obtain ⟨r, hr⟩ : ∃ r, (isq N : Int) = r := ⟨_, rfl⟩
  rw [hr] at AT SQ
  rw [hN] at SQ
  clear HD1 hnz hrb hr0 hr y1 y2 y3 hN hNt hdb
  obtain ⟨c0, c1, c2, c3⟩ := HU2.out
  simp only at c0 c1 c2
  go_wp2_with fail
  refine (R1 _).mono ?_
  rintro e w3 ⟨rfl, hw3⟩
  subst hw3
  go_wp2_with fail
  refine (R2 _).mono ?_
  rintro e w3 ⟨rfl, hw3⟩
  subst hw3
  go_wp2_with fail
  refine (R3 _).mono ?_
  rintro e w3 ⟨rfl, hw3⟩
  have F0 := fun p => (HU3.out.by p).1
  have F1 := fun p => (HU3.out.by p).2.1
  have F2 := fun p => (HU3.out.by p).2.2
  have G0 := fun p => (HV3.out.by p).1
  have G1 := fun p => (HV3.out.by p).2.1
  have G2 := fun p => (HV3.out.by p).2.2
  have g1 : IntKind.i64.wrap q1 = q1 := by rw [IntKind.wrap_i64]; omega
  have g2 : IntKind.i64.wrap q2 = q2 := by rw [IntKind.wrap_i64]; omega
  have g3 : IntKind.i64.wrap q3 = q3 := by rw [IntKind.wrap_i64]; omega
  have g4 : IntKind.i64.wrap (q1 + q2) = q1 + q2 := by rw [IntKind.wrap_i64]; omega
  have g5 : IntKind.i64.wrap (q1 + q2 + q3) = q1 + q2 + q3 := by rw [IntKind.wrap_i64]; omega
  have HEE := HE3
  have mixed := mixedD
  simp only at F0 F1 F2 G0 G1 G2
  rw [hw3] at F0 F1 F2 G0 G1 G2 HEE
  clear hw3 HU3 HV3 HE3 HU2
  go_wp2_with fail
  refine wp_region_quiet_bel (by assumption) (by kernel_rfl) ?_
  repeat (quiet_step (first
    | (go_at_call 47; exact Calls.bel_same (SQ _))
    | (go_at_call 48; exact Calls.bel_of (hdo _))
    | (go_at_call 46; exact Calls.bel_of (AT _))))
  refine wpQuiet_nil ?_
  rintro wz ⟨pz, hz⟩
  have HF : Hid (Below w.heap.size w wz) := by rw [hz]; exact Below.then_ HEE.out pz.h
  clear hz pz F0 F1 F2 G0 G1 G2
  go_wp2
  go_ret2
  exact ⟨rfl, HF.out⟩
end Go.Proofs.YteojggbmkppjoaaGreatDoor
