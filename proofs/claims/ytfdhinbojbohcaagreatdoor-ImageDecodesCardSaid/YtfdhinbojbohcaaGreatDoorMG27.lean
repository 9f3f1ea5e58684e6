/-
  Several texts as one.
  Plain laws: a database without an error has short strings and few elements; how long the image of a few elements is at most.
  Plain laws: the bytes of a database's image are read back: its header and its sections.
-/
import Derived.Test.YtfdhinbojbohcaaGreatDoorMG13
import Derived.Test.YtfdhinbojbohcaaGreatDoorMG21
namespace Go.Proofs.YtfdhinbojbohcaaGreatDoor
open Go.RowKit
set_option linter.unusedVariables false
set_option linter.unusedSimpArgs false
theorem fstE_zero : ∀ {l : List Int}, fstE l = 0 → ∀ e ∈ l, e = 0
  | [], _, e, he => by cases he
  | x :: t, h, e, he => by
    by_cases hx : x = 0
    · subst hx
      rw [fstE_z] at h
      rcases List.mem_cons.1 he with rfl | he
      · rfl
      · exact fstE_zero h e he
    · rw [fstE_n hx] at h; exact absurd h hx
theorem nameBb_len {l : List UInt8} {n : Int} (h : nameB l n = true) : (l.length : Int) ≤ n := by
  unfold nameB at h
  simp only [Bool.and_eq_true, decide_eq_true_eq] at h
  exact h.1.1.2
theorem shortB_two {l : List UInt8} (h : shortB l = true) : l.length = 2 := by
  unfold shortB at h
  simp only [Bool.and_eq_true, beq_iff_eq] at h
  exact h.1
theorem cutAt_len3 (c : UInt8) : ∀ (l : List UInt8), l.length ≤ (cutAt c l).1.length + 1 + (cutAt c l).2.1.length
  | [] => by simp [cutAt]
  | x :: l => by
    have ih := cutAt_len3 c l
    unfold cutAt
    split
    · show (x :: l).length ≤ ([] : List UInt8).length + 1 + l.length
      rw [List.length_cons, List.length_nil]; omega
    · show (x :: l).length ≤ (x :: (cutAt c l).1).length + 1 + (cutAt c l).2.1.length
      rw [List.length_cons, List.length_cons]; omega
theorem refErrB_len {l : List UInt8} (h : refErr l = 0) : l.length ≤ 13 := by
  unfold refErr at h
  split at h
  · split at h
    · rename_i hr
      unfold refB at hr
      simp only [Bool.and_eq_true, Bool.or_eq_true] at hr
      obtain ⟨h1, h2⟩ := hr
      have a1 := nameBb_len h1
      have a2 : (cutAt 47 l).2.1.length ≤ 6 := by
        rcases h2 with h2 | h2
        · have := nameBb_len h2; omega
        · have := shortB_two h2; omega
      have := cutAt_len3 47 l
      omega
    · cases h
  · cases h
theorem refC_len {l : List UInt8} {u : Bool} (h : refC l u = 0) : l.length ≤ 13 := by
  unfold refC at h
  split at h
  · split at h
    · rename_i hr; exact refErrB_len hr
    · cases h
  · split at h
    · omega
    · cases h
/-- a database whose strings, numbers and lists an image holds -/
def I64 (n : Int) : Prop := -9223372036854775808 ≤ n ∧ n ≤ 9223372036854775807
structure LgB (g : Lg) : Prop where
  fi : g.fi.length ≤ 255
  ce : g.ce.length ≤ 255
  ty : g.ty < 256
  tn : g.tn < 256
  cr : I64 g.cr
  ds : I64 g.ds
  ra : I64 g.ra
  th : I64 g.th
  lo : I64 g.lo
  hi : I64 g.hi
  sp : I64 g.sp
  rn : I64 g.rn
structure PaB (x : Pa) : Prop where
  nm : x.nm.length ≤ 255
  kd : x.kd < 256
  n : x.lg.length < 65536
  lg : ∀ g ∈ x.lg, LgB g
structure PrB (p : Prc) : Prop where
  ap : p.ap.length ≤ 255
  nm : p.nm.length ≤ 255
  kd : p.kd < 256
  n : p.pa.length < 65536
  pa : ∀ x ∈ p.pa, PaB x
structure PtB (p : Pt) : Prop where
  ref : p.ref.length ≤ 255
  lo : I64 p.lo
  hi : I64 p.hi
  dir : p.dir < 256
structure AwBd (a : AwD) : Prop where
  nm : a.nm.length ≤ 255
  n : a.ps.length < 65536
  ps : ∀ p ∈ a.ps, PtB p
structure FxB (f : Fx) : Prop where
  id : f.id.length ≤ 255
  rg : f.rg.length ≤ 255
  kd : f.kd < 256
  la : I64 f.lat
  lo : I64 f.lon
  el : I64 f.el
  ra : I64 f.ra
structure DbB (d : DbD) : Prop where
  nm : d.hd.nm.length ≤ 255
  cy : I64 d.hd.cy
  fr : I64 d.hd.fr
  tu : I64 d.hd.tu
  la : I64 d.hd.la
  lo : I64 d.hd.lo
  nf : d.fx.length < 65536
  na : d.aw.length < 65536
  np : d.pr.length < 65536
  fx : ∀ f ∈ d.fx, FxB f
  aw : ∀ a ∈ d.aw, AwBd a
  pr : ∀ p ∈ d.pr, PrB p
theorem getD_mem {α : Type} {l : List α} {a d : α} (h : a ∈ l) : ∃ k, k < l.length ∧ l.getD k d = a := by
  obtain ⟨k, hk, rfl⟩ := List.getElem_of_mem h
  exact ⟨k, hk, by rw [List.getD_eq_getElem?_getD, List.getElem?_eq_getElem hk]; rfl⟩
theorem ptErr_b {l : List Pt} {p : Pt} {i : Nat} (h : ptErr l p i = 0) : PtB p := by
  unfold ptErr at h
  split at h
  · rename_i hr
    have h1 := refErrB_len hr
    split at h
    · cases h
    · split at h
      · split at h
        · rename_i hl
          unfold lastOk at hl
          simp only [Bool.and_eq_true, decide_eq_true_eq] at hl
          obtain ⟨⟨e1, e2⟩, e3⟩ := hl
          exact ⟨by omega, by unfold I64; omega, by unfold I64; omega, by omega⟩
        · cases h
      · split at h
        · rename_i hw
          unfold winOk at hw
          simp only [Bool.and_eq_true, decide_eq_true_eq] at hw
          obtain ⟨⟨e1, e2⟩, e3⟩ := hw
          split at h
          · cases h
          · exact ⟨by omega, by unfold I64; omega, by unfold I64; omega, by omega⟩
        · cases h
  · cases h
theorem chkFrom_pts : ∀ (r : List Pt) (l : List Pt) (i : Nat), chkFrom l i r = 0 → ∀ p ∈ r, PtB p
  | [], _, _, _, p, hp => by cases hp
  | q :: r, l, i, h, p, hp => by
    unfold chkFrom at h
    split at h
    · rename_i h0
      rcases List.mem_cons.1 hp with rfl | hp
      · exact ptErr_b h0
      · exact chkFrom_pts r l (i + 1) h p hp
    · rename_i h0; exact absurd h h0
theorem chkA_b {nm : List UInt8} {l : List Pt} (h : chkA nm l = 0) : AwBd ⟨nm, l⟩ := by
  unfold chkA at h
  split at h
  · rename_i hn
    have := nameBb_len hn
    split at h
    · cases h
    · split at h
      · cases h
      · exact ⟨by show nm.length ≤ 255; omega, by show l.length < 65536; omega, fun p hp => chkFrom_pts _ _ _ h p hp⟩
  · cases h
theorem fixE_b {f : Fx} (h : fixE f = 0) : FxB f := by
  unfold fixE at h
  split at h
  · cases h
  · rename_i h0
    split at h
    · cases h
    · rename_i h1
      split at h
      · cases h
      · rename_i h2
        have g1 : identE f.id f.kd = 0 := Classical.byContradiction h1
        have g2 : locE f.rg f.kd = 0 := Classical.byContradiction h2
        unfold identE at g1
        unfold locE at g2
        split at h
        · cases h
        · rename_i h3
          have hp : posB f.lat f.lon = true := by simpa using h3
          have hla : I64 f.lat ∧ I64 f.lon := by
            unfold posB latB lonB at hp
            simp only [Bool.and_eq_true, decide_eq_true_eq] at hp
            unfold I64; omega
          have hel : I64 f.el ∧ I64 f.ra := by
            split at h
            · rename_i h4; exact absurd h h4
            · rename_i h4
              have g4 : elE f.kd f.el = 0 := Classical.byContradiction h4
              unfold elE at g4
              unfold raE at h
              constructor
              · split at g4
                · split at g4
                  · cases g4
                  · unfold I64; omega
                · split at g4
                  · unfold I64; omega
                  · cases g4
              · split at h
                · split at h
                  · cases h
                  · unfold I64; omega
                · split at h
                  · unfold I64; omega
                  · cases h
          refine ⟨?_, ?_, by omega, hla.1, hla.2, hel.1, hel.2⟩
          · split at g1
            · rename_i hh
              simp only [Bool.and_eq_true] at hh
              have := nameBb_len hh.1; omega
            · cases g1
          · split at g2
            · rename_i hh
              simp only [Bool.or_eq_true, Bool.and_eq_true] at hh
              rcases hh with hh | hh
              · have := nameBb_len hh.2; omega
              · have := shortB_two hh.2; omega
            · cases g2
theorem numC_b {n lo hi : Int} {u : Bool} (h : numC n u lo hi = 0) (h1 : 0 ≤ lo ∧ hi ≤ 1000000000) : I64 n := by
  unfold numC at h
  split at h
  · split at h
    · cases h
    · unfold I64; omega
  · split at h
    · unfold I64; omega
    · cases h
theorem legE_b {g : Lg} (h : legE g = 0) : LgB g := by
  unfold legE at h
  split at h
  · cases h
  · rename_i ht
    have hz := fstE_zero h
    have a1 := hz (refC g.fi (bitU (legU g.ty) 1)) (by simp)
    have a2 := hz (refC g.ce (bitU (legU g.ty) 2)) (by simp)
    have a3 := hz (turnE (legU g.ty) g.tn) (by simp)
    have a5 := hz (numC g.cr (bitU (legU g.ty) 16) 0 129599999) (by simp)
    have a6 := hz (numC g.ds (bitU (legU g.ty) 32) 1 2000000) (by simp)
    have a7 := hz (numC g.ra (bitU (legU g.ty) 64) 1 2000000) (by simp)
    have a8 := hz (numC g.th (bitU (legU g.ty) 128) 0 129599999) (by simp)
    have a9 := hz (altE g.ty g.lo g.hi) (by simp)
    have b0 := hz (spdE g.sp g.rn) (by simp)
    have c1 := refC_len a1
    have c2 := refC_len a2
    have c3 : g.tn < 256 := by
      unfold turnE at a3
      split at a3
      · split at a3
        · omega
        · cases a3
      · split at a3
        · omega
        · cases a3
    have c9 : I64 g.lo ∧ I64 g.hi := by
      unfold altE at a9
      split at a9
      · cases a9
      · unfold I64; omega
    have d0 : I64 g.sp ∧ I64 g.rn := by
      unfold spdE at b0
      split at b0
      · cases b0
      · unfold I64; omega
    exact ⟨by omega, by omega, by omega, c3, numC_b a5 (by omega), numC_b a6 (by omega), numC_b a7 (by omega), numC_b a8 (by omega), c9.1, c9.2, d0.1, d0.2⟩
theorem nmdE_b {x : Pa} (h : nmdE x = 0) : x.nm.length ≤ 13 := by
  unfold nmdE at h
  split at h
  · split at h
    · rename_i hn; have := nameBb_len hn; omega
    · cases h
  · split at h
    · rename_i hn; rw [hn]; simp
    · cases h
theorem kndL_b {k x : Nat} (h : x ∈ kndL k) : x < 256 := by
  unfold kndL at h
  split at h
  · simp at h; omega
  · split at h
    · simp at h; omega
    · split at h
      · simp at h; omega
      · simp at h
theorem prcE_b {p : Prc} (h : prcE p = 0) : PrB p := by
  unfold prcE at h
  have hz := fstE_zero h
  have h1 := hz _ (List.mem_cons_self ..)
  have h2 := hz _ (List.mem_cons_of_mem _ (List.mem_cons_self ..))
  have h3 := hz _ (List.mem_cons_of_mem _ (List.mem_cons_of_mem _ (List.mem_cons_self ..)))
  have h4 := hz _ (List.mem_cons_of_mem _ (List.mem_cons_of_mem _ (List.mem_cons_of_mem _ (List.mem_cons_self ..))))
  have hk : p.kd < 256 := by
    split at h2
    · omega
    · cases h2
  split at h1
  · rename_i hn
    simp only [Bool.and_eq_true] at hn
    have a1 := nameBb_len hn.1
    have a2 := nameBb_len hn.2
    split at h3
    · cases h3
    · refine ⟨by omega, by omega, hk, by omega, fun x hx => ?_⟩
      obtain ⟨i, hi, hix⟩ := getD_mem (d := pa0) hx
      have h5 := allE_zero h4 i hi
      unfold pa1E at h5
      rw [hix] at h5
      have hy := fstE_zero h5
      have b1 := hy _ (List.mem_cons_self ..)
      have b3 := hy _ (List.mem_cons_of_mem _ (List.mem_cons_of_mem _ (List.mem_cons_self ..)))
      have b4 := hy _ (List.mem_cons_of_mem _ (List.mem_cons_of_mem _ (List.mem_cons_of_mem _ (List.mem_cons_self ..))))
      have b5 := hy _ (List.mem_cons_of_mem _ (List.mem_cons_of_mem _ (List.mem_cons_of_mem _ (List.mem_cons_of_mem _ (List.mem_cons_self ..)))))
      have bk : x.kd < 256 := by
        split at b1
        · rename_i hm; exact kndL_b hm
        · cases b1
      have := nmdE_b b3
      refine ⟨by omega, bk, ?_, fun g hg => ?_⟩
      · split at b4
        · omega
        · split at b4
          · cases b4
          · omega
      · obtain ⟨j, hj, hjg⟩ := getD_mem (d := lg0) hg
        have h6 := allE_zero b5 j hj
        unfold lg1E at h6
        rw [hjg] at h6
        exact legE_b (fstE_zero h6 _ (List.mem_cons_self ..))
  · cases h1
theorem cdX_i {n : Int} (h : 0 ≤ n ∧ n ≤ 9999) : 0 ≤ cdF n ∧ cdF n ≤ 1000000 ∧ 0 ≤ cdT n ∧ cdT n ≤ 2000000 := by
  have hb : cdX (n.toNat / 100) (n.toNat % 100) ≤ 1000000 := by unfold cdX fstN janN; split <;> omega
  unfold cdF cdT
  split <;> omega
theorem dbE_b {d : DbD} (h : dbE d = 0) : DbB d := by
  unfold dbE at h
  have hz := fstE_zero h
  have h1 := hz _ (List.mem_cons_self ..)
  have h2 := hz _ (List.mem_cons_of_mem _ (List.mem_cons_self ..))
  have h3 := hz _ (List.mem_cons_of_mem _ (List.mem_cons_of_mem _ (List.mem_cons_self ..)))
  have h4 := hz _ (List.mem_cons_of_mem _ (List.mem_cons_of_mem _ (List.mem_cons_of_mem _ (List.mem_cons_self ..))))
  have h5 := hz _ (List.mem_cons_of_mem _ (List.mem_cons_of_mem _ (List.mem_cons_of_mem _ (List.mem_cons_of_mem _ (List.mem_cons_self ..)))))
  have g2 : ¬ (400 < d.fx.length ∨ 60 < d.aw.length ∨ 60 < d.pr.length) := fun hh => by rw [if_pos hh] at h2; cases h2
  unfold hdrE at h1
  split at h1
  · cases h1
  · rename_i hn
    split at h1
    · rename_i hc; exact absurd h1 hc
    · rename_i hc
      split at h1
      · cases h1
      · rename_i hft
        have hn2 : nameB d.hd.nm 8 = true := by simpa using hn
        have hc2 : cdE d.hd.cy = 0 := Classical.byContradiction hc
        have hcy : ¬ (d.hd.cy < 0 ∨ 9999 < d.hd.cy) := fun hh => by unfold cdE at hc2; rw [if_pos hh] at hc2; cases hc2
        have hft2 : d.hd.fr = cdF d.hd.cy ∧ d.hd.tu = cdT d.hd.cy := by
          simp only [not_or, Decidable.not_not] at hft; exact hft
        have hob : orgB d.hd.la d.hd.lo = true ∧ vldB d.hd.la d.hd.lo = true := by
          unfold toE at h1
          split at h1
          · cases h1
          · rename_i ho
            simpa using ho
        have hv := hob.2
        unfold vldB at hv
        simp only [Bool.and_eq_true, decide_eq_true_eq] at hv
        have hl := nameBb_len hn2
        have hci := cdX_i (n := d.hd.cy) (by omega)
        refine ⟨by omega, by unfold I64; omega, by rw [hft2.1]; unfold I64; omega, by rw [hft2.2]; unfold I64; omega, by unfold I64; omega, by unfold I64; omega, by omega, by omega, by omega, fun f hf => ?_, fun a ha => ?_, fun p hp => ?_⟩
        · obtain ⟨k, hk, hkf⟩ := getD_mem (d := fx0) hf
          have h6 := allE_zero h3 k hk
          unfold fx1E at h6
          rw [hkf] at h6
          exact fixE_b (fstE_zero h6 _ (List.mem_cons_self ..))
        · obtain ⟨k, hk, hka⟩ := getD_mem (d := aw0) ha
          have h6 := allE_zero h4 k hk
          unfold aw1E at h6
          rw [hka] at h6
          exact chkA_b (fstE_zero h6 _ (List.mem_cons_self ..))
        · obtain ⟨k, hk, hkp⟩ := getD_mem (d := pr0) hp
          have h6 := allE_zero h5 k hk
          unfold pr1E at h6
          rw [hkp] at h6
          exact prcE_b (fstE_zero h6 _ (List.mem_cons_self ..))
/-! ### how long -/
theorem flatB_len {α β : Type} (f : α → List β) (c : Nat) : ∀ (l : List α), (∀ a ∈ l, (f a).length ≤ c) → (l.flatMap f).length ≤ l.length * c
  | [], _ => by simp
  | a :: l, h => by
    rw [List.flatMap_cons, List.length_append, List.length_cons, Nat.succ_mul]
    have h1 := h a (List.mem_cons_self ..)
    have h2 := flatB_len f c l (fun b hb => h b (List.mem_cons_of_mem _ hb))
    omega
theorem txtLb_one (s : List UInt8) : (txtL [s]).length = s.length + 1 := by simp [txtL]
theorem txtLb_two (s t : List UInt8) : (txtL [s, t]).length = s.length + t.length + 2 := by simp [txtL]; omega
theorem hdB_len {h : ImHd} (hn : h.nm.length ≤ 255) : (hdB h).length ≤ 296 := by
  unfold hdB; rw [List.length_append, txtLb_one, numB_len]; simp only [List.length_cons, List.length_nil]; omega
theorem fxB_len {f : Fx} (h : FxB f) : (fxB f).length ≤ 545 := by
  have := h.id; have := h.rg
  unfold fxB; rw [List.length_append, List.length_append, txtLb_two, numB_len]; simp only [List.length_cons, List.length_nil]; omega
theorem ptB_len {p : Pt} (h : p.ref.length ≤ 255) : (ptB p).length ≤ 273 := by
  unfold ptB; rw [List.length_append, List.length_append, txtLb_one, numB_len]; simp only [List.length_cons, List.length_nil]; omega
theorem awB_len {a : AwD} (h : AwBd a) (n : Nat) (hn : a.ps.length ≤ n) : (awB a).length ≤ 258 + n * 273 := by
  have h1 := flatB_len ptB 273 a.ps (fun p hp => ptB_len (h.ps p hp).ref)
  have h2 := h.nm
  have h3 : a.ps.length * 273 ≤ n * 273 := Nat.mul_le_mul_right _ hn
  unfold awB; rw [List.length_append, List.length_append, txtLb_one, lowB_len]; omega
theorem lgB_len {g : Lg} (h : LgB g) : (lgB g).length ≤ 579 := by
  have := h.fi; have := h.ce
  unfold lgB; rw [List.length_append, List.length_append, List.length_append, txtLb_two, numB_len]; simp only [List.length_cons, List.length_nil]; omega
theorem paB_len {x : Pa} (h : PaB x) (n : Nat) (hn : x.lg.length ≤ n) : (paB x).length ≤ 259 + n * 579 := by
  have h1 := flatB_len lgB 579 x.lg (fun g hg => lgB_len (h.lg g hg))
  have h2 := h.nm
  have h3 : x.lg.length * 579 ≤ n * 579 := Nat.mul_le_mul_right _ hn
  unfold paB; rw [List.length_append, List.length_append, List.length_append, txtLb_one, lowB_len]; simp only [List.length_cons, List.length_nil]; omega
theorem prB_len {p : Prc} (h : PrB p) (n m : Nat) (hn : p.pa.length ≤ n) (hm : ∀ x ∈ p.pa, x.lg.length ≤ m) : (prB p).length ≤ 515 + n * (259 + m * 579) := by
  have h1 := flatB_len paB (259 + m * 579) p.pa (fun x hx => paB_len (h.pa x hx) m (hm x hx))
  have h2 := h.nm
  have h4 := h.ap
  have h3 : p.pa.length * (259 + m * 579) ≤ n * (259 + m * 579) := Nat.mul_le_mul_right _ hn
  unfold prB; rw [List.length_append, List.length_append, List.length_append, txtLb_two, lowB_len]; simp only [List.length_cons, List.length_nil]; omega
theorem secsB_four (a b c d : List UInt8) : (secsB 1 [a, b, c, d]).length = 20 + a.length + b.length + c.length + d.length := by
  simp only [secsB, List.length_append, secB_len, List.length_nil]; omega
theorem few_aw {d : DbD} {a : AwD} (h : a ∈ (fewD d).aw) : a.ps.length ≤ 8 := by
  obtain ⟨b, _, rfl⟩ := List.mem_map.1 h
  show (b.ps.take 8).length ≤ 8
  rw [List.length_take]; omega
theorem few_pr {d : DbD} {p : Prc} (h : p ∈ (fewD d).pr) : p.pa.length ≤ 5 ∧ ∀ x ∈ p.pa, x.lg.length ≤ 6 := by
  obtain ⟨q, _, rfl⟩ := List.mem_map.1 h
  refine ⟨?_, fun x hx => ?_⟩
  · show ((q.pa.take 5).map fewP).length ≤ 5
    rw [List.length_map, List.length_take]; omega
  · obtain ⟨y, _, rfl⟩ := List.mem_map.1 hx
    show (y.lg.take 6).length ≤ 6
    rw [List.length_take]; omega
theorem fewD_len {d : DbD} (h : DbB (fewD d)) : (dbB (fewD d)).length ≤ 900000 := by
  have h1 := hdB_len h.nm
  have n2 : (fewD d).fx.length ≤ 24 := by show (d.fx.take 24).length ≤ 24; rw [List.length_take]; omega
  have n3 : (fewD d).aw.length ≤ 6 := by show ((d.aw.take 6).map fewA).length ≤ 6; rw [List.length_map, List.length_take]; omega
  have n4 : (fewD d).pr.length ≤ 4 := by show ((d.pr.take 4).map fewR).length ≤ 4; rw [List.length_map, List.length_take]; omega
  have h2 := flatB_len fxB 545 (fewD d).fx (fun f hf => fxB_len (h.fx f hf))
  have h3 := flatB_len awB (258 + 8 * 273) (fewD d).aw (fun a ha => awB_len (h.aw a ha) 8 (few_aw ha))
  have h4 := flatB_len prB (515 + 5 * (259 + 6 * 579)) (fewD d).pr (fun p hp => prB_len (h.pr p hp) 5 6 (few_pr hp).1 (few_pr hp).2)
  unfold dbB conB
  rw [List.length_append, secsB_four, List.length_append, List.length_append, List.length_append, lowB_len, lowB_len, lowB_len, show magicL.length = 4 from rfl]
  omega
end Go.Proofs.YtfdhinbojbohcaaGreatDoor
namespace Go.Proofs.YtfdhinbojbohcaaGreatDoor
open Go.RowKit
set_option linter.unusedVariables false
set_option linter.unusedSimpArgs false
/-- bytes stand at a place -/
def AtB (bs : List UInt8) (a : Nat) (xs : List UInt8) : Prop := (bs.drop a).take xs.length = xs ∧ a + xs.length ≤ bs.length
theorem AtB.left {bs : List UInt8} {a : Nat} {x y : List UInt8} (h : AtB bs a (x ++ y)) : AtB bs a x := by
  obtain ⟨h1, h2⟩ := h
  rw [List.length_append] at h1 h2
  refine ⟨?_, by omega⟩
  have := congrArg (List.take x.length) h1
  rw [List.take_take, List.take_left, Nat.min_eq_left (by omega)] at this
  exact this
theorem AtB.right {bs : List UInt8} {a : Nat} {x y : List UInt8} (h : AtB bs a (x ++ y)) : AtB bs (a + x.length) y := by
  obtain ⟨h1, h2⟩ := h
  rw [List.length_append] at h1 h2
  refine ⟨?_, by omega⟩
  have := congrArg (List.drop x.length) h1
  rw [List.drop_left, List.drop_take, List.drop_drop, Nat.add_sub_cancel_left] at this
  exact this
theorem AtB.tail {bs : List UInt8} {a : Nat} {b : UInt8} {y : List UInt8} (h : AtB bs a (b :: y)) : AtB bs (a + 1) y := AtB.right (x := [b]) h
theorem AtB.head {bs : List UInt8} {a : Nat} {b : UInt8} {y : List UInt8} (h : AtB bs a (b :: y)) : AtB bs a [b] := AtB.left (y := y) h
section
variable {bs : List UInt8} {st a : Nat}
theorem tkS_at {n : Nat} (h : a + n ≤ st) : tkS st n (a, false) = (a + n, false) := tkS_yes (by omega)
theorem tkV_at {xs : List UInt8} {n : Nat} (h : AtB bs a xs) (hn : xs.length = n) (hs : a + n ≤ st) : tkV bs st n (a, false) = xs := by
  subst hn; rw [tkV_yes (by omega)]; exact h.1
theorem byV_at {b : UInt8} (h : AtB bs a [b]) (hs : a + 1 ≤ st) : byV bs st (a, false) = b := by
  unfold byV; rw [tkV_at (n := 1) h rfl hs]; rfl
theorem u8of_len {n : Nat} (h : n ≤ 255) : (u8of (n : Int)).toNat = n := by have := u8of_nat (n : Int); omega
theorem txS_at {s : List UInt8} (h : AtB bs a (u8of (s.length : Int) :: s)) (hl : s.length ≤ 255) (hs : a + 1 + s.length ≤ st) : txS bs st (a, false) = (a + 1 + s.length, false) := by
  unfold txS
  rw [byV_at h.head (by omega), u8of_len hl, tkS_at (n := 1) (by omega), tkS_at (by omega)]
theorem txV_at {s : List UInt8} (h : AtB bs a (u8of (s.length : Int) :: s)) (hl : s.length ≤ 255) (hs : a + 1 + s.length ≤ st) : txV bs st (a, false) = s := by
  unfold txV
  rw [byV_at h.head (by omega), u8of_len hl, tkS_at (n := 1) (by omega)]
  exact tkV_at h.tail rfl (by omega)
theorem txt1 {s : List UInt8} : txtL [s] = u8of (s.length : Int) :: s := by simp [txtL]
theorem txt2 {s t : List UInt8} : txtL [s, t] = (u8of (s.length : Int) :: s) ++ (u8of (t.length : Int) :: t) := by simp [txtL]
theorem n8S_at (h : a + 8 ≤ st) : n8S st (a, false) = (a + 8, false) := tkS_at h
theorem n8x_at : ∀ (k : Nat) {a : Nat}, a + k * 8 ≤ st → n8x st k (a, false) = (a + k * 8, false)
  | 0, a, _ => by rw [Nat.zero_mul, Nat.add_zero]; rfl
  | k + 1, a, h => by
    have h2 : a + 8 + k * 8 ≤ st := by rw [Nat.succ_mul] at h; omega
    show n8x st k (n8S st (a, false)) = _
    rw [n8S_at (by omega), n8x_at k h2, Nat.succ_mul]
    congr 1; omega
theorem itS_at' {α : Type} (f : α → List UInt8) (one : RS → RS) (l : List α) (h1 : ∀ x ∈ l, ∀ (a : Nat), AtB bs a (f x) → a + (f x).length ≤ st → one (a, false) = (a + (f x).length, false)) :
    ∀ (a : Nat), AtB bs a (l.flatMap f) → a + (l.flatMap f).length ≤ st → itS one l.length (a, false) = (a + (l.flatMap f).length, false) := by
  induction l with
  | nil => intro a _ _; rfl
  | cons x l ih =>
    intro a h hs
    rw [List.flatMap_cons] at h hs ⊢
    rw [List.length_append] at hs ⊢
    rw [List.length_cons, itS_more, h1 x (List.mem_cons_self ..) a h.left (by omega), ih (fun y hy => h1 y (List.mem_cons_of_mem _ hy)) _ h.right (by omega), Nat.add_assoc]
theorem lsN_at {n : Nat} {y : List UInt8} (h : AtB bs a (lowB (n : Int) 2 ++ y)) (hn : n < 65536) (hs : a + 2 ≤ st) : lsN bs st (a, false) = n := by
  unfold lsN
  rw [tkV_at h.left (lowB_len _ _) hs, loN_lowB]
  exact Nat.mod_eq_of_lt hn
theorem lsS_at {α : Type} (f : α → List UInt8) (one : RS → RS) (l : List α) (h1 : ∀ x ∈ l, ∀ (a : Nat), AtB bs a (f x) → a + (f x).length ≤ st → one (a, false) = (a + (f x).length, false))
    (h : AtB bs a (lowB (l.length : Int) 2 ++ l.flatMap f)) (hn : l.length < 65536) (hs : a + 2 + (l.flatMap f).length ≤ st) : lsS bs st one (a, false) = (a + 2 + (l.flatMap f).length, false) := by
  unfold lsS
  rw [lsN_at h hn (by omega), tkS_at (n := 2) (by omega)]
  have h2 := h.right
  rw [lowB_len] at h2
  exact itS_at' f one l h1 (a + 2) h2 hs
theorem fiS_at {f : Fx} (hb : FxB f) (h : AtB bs a (fxB f)) (hs : a + (fxB f).length ≤ st) : fiS bs st (a, false) = (a + (fxB f).length, false) := by
  have h1 := hb.id; have h2 := hb.rg
  have hl : (fxB f).length = f.id.length + f.rg.length + 35 := by
    unfold fxB; rw [List.length_append, List.length_append, txtLb_two, numB_len]; (simp only [List.length_cons, List.length_nil]) <;> omega
  rw [hl] at hs ⊢
  unfold fxB at h
  rw [txt2] at h
  have t1 := txS_at (st := st) h.left.left (by omega) (by omega)
  have t2 := txS_at (st := st) h.left.right (by omega) (by rw [List.length_cons]; omega)
  rw [List.length_cons, show a + (f.id.length + 1) = a + 1 + f.id.length by omega] at t2
  unfold fiS
  rw [t1, t2, tkS_at (n := 1) (by omega), n8S_at (by omega), n8S_at (by omega), n8S_at (by omega), n8S_at (by omega)]
  (congr 1) <;> omega
theorem ptS_at {p : Pt} (hb : p.ref.length ≤ 255) (h : AtB bs a (ptB p)) (hs : a + (ptB p).length ≤ st) : ptS bs st (a, false) = (a + (ptB p).length, false) := by
  have hl : (ptB p).length = p.ref.length + 18 := by
    unfold ptB; rw [List.length_append, List.length_append, txtLb_one, numB_len]; (simp only [List.length_cons, List.length_nil]) <;> omega
  rw [hl] at hs ⊢
  unfold ptB at h
  rw [txt1] at h
  unfold ptS
  rw [txS_at h.left (by omega) (by omega), n8S_at (by omega), n8S_at (by omega), tkS_at (n := 1) (by omega)]
  (congr 1) <;> omega
theorem awS_at {w : AwD} (hb : AwBd w) (h : AtB bs a (awB w)) (hs : a + (awB w).length ≤ st) : awS bs st (a, false) = (a + (awB w).length, false) := by
  have h1 := hb.nm; have h2 := hb.n
  have hl : (awB w).length = w.nm.length + 3 + (w.ps.flatMap ptB).length := by
    unfold awB; rw [List.length_append, List.length_append, txtLb_one, lowB_len]; omega
  rw [hl] at hs ⊢
  unfold awB at h
  rw [txt1] at h
  unfold awS
  have h3 := h.right
  rw [List.length_cons, show a + (w.nm.length + 1) = a + 1 + w.nm.length by omega] at h3
  rw [txS_at h.left (by omega) (by omega), lsS_at ptB (ptS bs st) w.ps (fun x hx a ha hs => ptS_at (hb.ps x hx).ref ha hs) h3 (by omega) (by omega)]
  (congr 1) <;> omega
theorem leS_at {g : Lg} (hb : LgB g) (h : AtB bs a (lgB g)) (hs : a + (lgB g).length ≤ st) : leS bs st (a, false) = (a + (lgB g).length, false) := by
  have h1 := hb.fi; have h2 := hb.ce
  have hl : (lgB g).length = g.fi.length + g.ce.length + 69 := by
    unfold lgB; rw [List.length_append, List.length_append, List.length_append, txtLb_two, numB_len]; (simp only [List.length_cons, List.length_nil]) <;> omega
  rw [hl] at hs ⊢
  unfold lgB at h
  rw [txt2] at h
  have k1 := h.right
  rw [show [u8b g.ty].length = 1 from rfl] at k1
  have k2 := k1.left.left
  have k3 := k1.left.right
  have k4 := k1.right
  rw [List.length_cons, show a + 1 + (g.fi.length + 1) = a + 1 + 1 + g.fi.length by omega] at k3
  rw [List.length_append, List.length_cons, List.length_cons, show a + 1 + (g.fi.length + 1 + (g.ce.length + 1)) = a + 1 + 1 + g.fi.length + 1 + g.ce.length by omega] at k4
  have k5 := k4.left.tail
  have t1 := txS_at (st := st) k2 (by omega) (by omega)
  have t2 := txS_at (st := st) k3 (by omega) (by omega)
  have hov : ovS bs st (a + 1 + 1 + g.fi.length + 1 + g.ce.length + 1, false) = (a + 1 + 1 + g.fi.length + 1 + g.ce.length + 1 + 1, false) := by
    unfold ovS
    rw [byV_at k5 (by omega), if_neg (by cases g.ov <;> decide), tkS_at (n := 1) (by omega)]
  unfold leS
  rw [tkS_at (n := 1) (by omega), t1, t2, tkS_at (n := 1) (by omega), hov, n8x_at 8 (by omega)]
  (congr 1) <;> omega
theorem imPaS_at {x : Pa} (hb : PaB x) (h : AtB bs a (paB x)) (hs : a + (paB x).length ≤ st) : imPaS bs st (a, false) = (a + (paB x).length, false) := by
  have h1 := hb.nm; have h2 := hb.n
  have hl : (paB x).length = x.nm.length + 4 + (x.lg.flatMap lgB).length := by
    unfold paB; rw [List.length_append, List.length_append, List.length_append, txtLb_one, lowB_len]; (simp only [List.length_cons, List.length_nil]) <;> omega
  rw [hl] at hs ⊢
  unfold paB at h
  rw [txt1] at h
  have k1 := h.right
  rw [show [u8b x.kd].length = 1 from rfl] at k1
  have k2 := k1.right
  rw [List.length_cons, show a + 1 + (x.nm.length + 1) = a + 1 + 1 + x.nm.length by omega] at k2
  unfold imPaS
  rw [tkS_at (n := 1) (by omega), txS_at k1.left (by omega) (by omega), lsS_at lgB (leS bs st) x.lg (fun g hg a ha hs => leS_at (hb.lg g hg) ha hs) k2 (by omega) (by omega)]
  (congr 1) <;> omega
theorem prS_at {p : Prc} (hb : PrB p) (h : AtB bs a (prB p)) (hs : a + (prB p).length ≤ st) : prS bs st (a, false) = (a + (prB p).length, false) := by
  have h1 := hb.nm; have h2 := hb.n; have h0 := hb.ap
  have hl : (prB p).length = p.ap.length + p.nm.length + 5 + (p.pa.flatMap paB).length := by
    unfold prB; rw [List.length_append, List.length_append, List.length_append, txtLb_two, lowB_len]; (simp only [List.length_cons, List.length_nil]) <;> omega
  rw [hl] at hs ⊢
  unfold prB at h
  rw [txt2] at h
  have k3 := h.left.right
  have k4 := h.right
  rw [List.length_cons, show a + (p.ap.length + 1) = a + 1 + p.ap.length by omega] at k3
  rw [List.length_append, List.length_cons, List.length_cons, show a + (p.ap.length + 1 + (p.nm.length + 1)) = a + 1 + p.ap.length + 1 + p.nm.length by omega] at k4
  have k5 := k4.right
  rw [show [u8b p.kd].length = 1 from rfl] at k5
  unfold prS
  rw [txS_at h.left.left (by omega) (by omega), txS_at k3 (by omega) (by omega), tkS_at (n := 1) (by omega), lsS_at paB (imPaS bs st) p.pa (fun x hx a ha hs => imPaS_at (hb.pa x hx) ha hs) k5 (by omega) (by omega)]
  (congr 1) <;> omega
theorem hdS_at {g : ImHd} (hn : g.nm.length ≤ 255) (h : AtB bs a (hdB g)) (hs : a + (hdB g).length ≤ st) : hdS bs st (a, false) = (a + (hdB g).length, false) := by
  have hl : (hdB g).length = g.nm.length + 41 := by
    unfold hdB; rw [List.length_append, txtLb_one, numB_len]; (simp only [List.length_cons, List.length_nil]) <;> omega
  rw [hl] at hs ⊢
  unfold hdB at h
  rw [txt1] at h
  unfold hdS
  rw [txS_at h.left (by omega) (by omega), n8x_at 5 (by omega)]
  (congr 1) <;> omega
/-! ### numbers -/
theorem shN_div (n : Int) : ∀ (k : Nat), shN k n = n / (256 ^ k : Int)
  | 0 => by simp [shN]
  | k + 1 => by
    have hp : (0 : Int) ≤ 256 ^ k := Int.le_of_lt (Int.pow_pos (by omega))
    show shN k n / 256 = _
    rw [shN_div n k, Int.pow_succ, Int.ediv_ediv_of_nonneg hp]
theorem shN_mod (n : Int) : ∀ (k : Nat), ((loN (lowB n k) : Nat) : Int) = n % (256 ^ k : Int)
  | 0 => by simp [lowB, loN, Int.emod_one]
  | k + 1 => by
    rw [lowB_snoc, loN_snoc, lowB_len]
    have ih := shN_mod n k
    have h1 := u8of_nat (shN k n)
    rw [Int.natCast_add, Int.natCast_mul, ih, h1, shN_div]
    rw [show (((256 : Nat) ^ k : Nat) : Int) = (256 : Int) ^ k by rw [Int.natCast_pow]; rfl]
    have hp : (0 : Int) ≤ 256 ^ k := Int.le_of_lt (Int.pow_pos (by omega))
    rw [Int.pow_succ]
    generalize (256 : Int) ^ k = P at hp ⊢
    rw [Int.emod_def n (P * 256), Int.emod_def n P, Int.emod_def (n / P) 256, ← Int.ediv_ediv_of_nonneg hp]
    generalize n / P = q
    generalize q / 256 = r
    rw [Int.sub_mul, Int.mul_comm q P, Int.mul_assoc P 256 r, Int.mul_comm (256 * r) P]
    omega
theorem wrap_mod {n : Int} (h : -9223372036854775808 ≤ n ∧ n ≤ 9223372036854775807) : IntKind.i64.wrap (n % 18446744073709551616) = n := by
  unfold IntKind.wrap
  simp [IntKind.bits, IntKind.signed]
  omega
theorem n8V_at {n : Int} (h : AtB bs a (lowB n 8)) (hs : a + 8 ≤ st) (hn : -9223372036854775808 ≤ n ∧ n ≤ 9223372036854775807) : n8V bs st (a, false) = n := by
  unfold n8V
  rw [tkV_at h (lowB_len _ _) hs, shN_mod]
  exact wrap_mod hn
end
/-! ### sections -/
theorem secB_rd {bs : List UInt8} {k tag a : Nat} {c : List UInt8} (h : AtB bs a (secB (UInt8.ofNat tag) c)) (ht : tag < 256) (hc : c.length < 4294967296) (hs : secS bs (a + 5 + c.length) tag (a + 5, false) = (a + 5 + c.length, false)) :
    rdG bs (k + 1) tag a = (rdG bs k (tag + 1) (a + 5 + c.length)).map ((tag, a + 5, c.length, secN bs (a + 5 + c.length) tag (a + 5, false)) :: ·) := by
  have hl := h.2
  rw [secB_len] at hl
  unfold secB at h
  have h1 := h.left.left
  have h2 := h.left.right
  rw [show [UInt8.ofNat tag].length = 1 from rfl] at h2
  refine rdG_more (n := c.length) ?_ ?_ ?_ (by omega) (by rw [hs]; simp) (by rw [hs])
  · rw [tkS_at (n := 1) (by omega), tkS_at (n := 4) (by omega)]; simp
  · rw [byV_at h1 (by omega), UInt8.toNat_ofNat']; exact Nat.mod_eq_of_lt (by omega)
  · rw [tkV_at h2 (lowB_len _ _) (by omega), loN_lowB]; exact Nat.mod_eq_of_lt (by omega)
theorem secB_con {bs : List UInt8} {a : Nat} {t : UInt8} {c : List UInt8} (h : AtB bs a (secB t c)) : AtB bs (a + 5) c := by
  unfold secB at h
  have h1 := h.right
  rw [List.length_append, lowB_len] at h1
  exact h1
/-- the sections of a database's image -/
def dbSecs (d : DbD) : List Sec :=
  [(1, 9, (hdB d.hd).length, 1), (2, 9 + (hdB d.hd).length + 5, 2 + (d.fx.flatMap fxB).length, d.fx.length), (3, 9 + (hdB d.hd).length + 5 + (2 + (d.fx.flatMap fxB).length) + 5, 2 + (d.aw.flatMap awB).length, d.aw.length),
   (4, 9 + (hdB d.hd).length + 5 + (2 + (d.fx.flatMap fxB).length) + 5 + (2 + (d.aw.flatMap awB).length) + 5, 2 + (d.pr.flatMap prB).length, d.pr.length)]
theorem dbB_lenE (d : DbD) : (dbB d).length = 4 + 20 + (hdB d.hd).length + (2 + (d.fx.flatMap fxB).length) + (2 + (d.aw.flatMap awB).length) + (2 + (d.pr.flatMap prB).length) := by
  unfold dbB conB
  rw [List.length_append, secsB_four, List.length_append, List.length_append, List.length_append, lowB_len, lowB_len, lowB_len, show magicL.length = 4 from rfl]
  omega
set_option maxHeartbeats 1000000 in
theorem rdF_db {d : DbD} (h : DbB d) (hN : (dbB d).length ≤ 900000) : rdF (dbB d) = some (d.hd, dbSecs d) := by
  have hL := dbB_lenE d
  have A0 : AtB (dbB d) 0 (dbB d) := ⟨by rw [List.drop_zero, List.take_length], by omega⟩
  have e : dbB d = magicL ++ (secB (UInt8.ofNat 1) (hdB d.hd) ++ (secB (UInt8.ofNat 2) (lowB (d.fx.length : Int) 2 ++ d.fx.flatMap fxB) ++ (secB (UInt8.ofNat 3) (lowB (d.aw.length : Int) 2 ++ d.aw.flatMap awB) ++ (secB (UInt8.ofNat 4) (lowB (d.pr.length : Int) 2 ++ d.pr.flatMap prB) ++ [])))) := rfl
  have hm : (dbB d).take 4 = magicL := by rw [e]; exact List.take_left' rfl
  obtain ⟨bs, hbs⟩ : ∃ bs, dbB d = bs := ⟨_, rfl⟩
  have A1 : AtB bs 4 (secB (UInt8.ofNat 1) (hdB d.hd) ++ (secB (UInt8.ofNat 2) (lowB (d.fx.length : Int) 2 ++ d.fx.flatMap fxB) ++ (secB (UInt8.ofNat 3) (lowB (d.aw.length : Int) 2 ++ d.aw.flatMap awB) ++ (secB (UInt8.ofNat 4) (lowB (d.pr.length : Int) 2 ++ d.pr.flatMap prB) ++ [])))) := by
    have A2 : AtB bs 0 (magicL ++ (secB (UInt8.ofNat 1) (hdB d.hd) ++ (secB (UInt8.ofNat 2) (lowB (d.fx.length : Int) 2 ++ d.fx.flatMap fxB) ++ (secB (UInt8.ofNat 3) (lowB (d.aw.length : Int) 2 ++ d.aw.flatMap awB) ++ (secB (UInt8.ofNat 4) (lowB (d.pr.length : Int) 2 ++ d.pr.flatMap prB) ++ []))))) := by rw [← e, ← hbs]; exact A0
    exact A2.right
  rw [hbs] at hN hL hm ⊢
  clear e hbs A0
  have l1 : (hdB d.hd).length = d.hd.nm.length + 41 := by
    unfold hdB; rw [List.length_append, txtLb_one, numB_len]; (simp only [List.length_cons, List.length_nil]) <;> omega
  have s1 := A1.left
  have B1 := A1.right
  rw [secB_len] at B1
  have s2 := B1.left
  have B2 := B1.right
  rw [secB_len, List.length_append, lowB_len] at B2
  have s3 := B2.left
  have B3 := B2.right
  rw [secB_len, List.length_append, lowB_len] at B3
  have s4 := B3.left
  obtain ⟨n1, hn1⟩ : ∃ n, (hdB d.hd).length = n := ⟨_, rfl⟩
  obtain ⟨n2, hn2⟩ : ∃ n, (d.fx.flatMap fxB).length = n := ⟨_, rfl⟩
  obtain ⟨n3, hn3⟩ : ∃ n, (d.aw.flatMap awB).length = n := ⟨_, rfl⟩
  obtain ⟨n4, hn4⟩ : ∃ n, (d.pr.flatMap prB).length = n := ⟨_, rfl⟩
  have c1 := secB_con s1
  have c2 := secB_con s2
  have c3 := secB_con s3
  have c4 := secB_con s4
  have k2 : (lowB (d.fx.length : Int) 2 ++ d.fx.flatMap fxB).length = 2 + n2 := by rw [List.length_append, lowB_len, hn2]
  have k3 : (lowB (d.aw.length : Int) 2 ++ d.aw.flatMap awB).length = 2 + n3 := by rw [List.length_append, lowB_len, hn3]
  have k4 : (lowB (d.pr.length : Int) 2 ++ d.pr.flatMap prB).length = 2 + n4 := by rw [List.length_append, lowB_len, hn4]
  have hnf := h.nf; have hna := h.na; have hnp := h.np
  rw [hn1] at s2 s3 s4 c2 c3 c4 hL l1
  rw [hn2] at s3 s4 c3 c4 hL
  rw [hn3] at s4 c4 hL
  rw [hn4] at hL
  have r1 := secB_rd (k := 3) s1 (by decide) (by omega) (by
    unfold secS; rw [if_pos rfl, hdS_at h.nm c1 (by omega)])
  have r2 := secB_rd (k := 2) s2 (by decide) (by omega) (by
    unfold secS; rw [if_neg (by decide), if_pos rfl, lsS_at fxB _ d.fx (fun x hx a ha hs => fiS_at (h.fx x hx) ha hs) c2 (by omega) (by omega)]
    rw [k2, hn2]; (congr 1) <;> omega)
  have r3 := secB_rd (k := 1) s3 (by decide) (by omega) (by
    unfold secS; rw [if_neg (by decide), if_neg (by decide), if_pos rfl, lsS_at awB _ d.aw (fun x hx a ha hs => awS_at (h.aw x hx) ha hs) c3 (by omega) (by omega)]
    rw [k3, hn3]; (congr 1) <;> omega)
  have r4 := secB_rd (k := 0) s4 (by decide) (by omega) (by
    unfold secS; rw [if_neg (by decide), if_neg (by decide), if_neg (by decide), lsS_at prB _ d.pr (fun x hx a ha hs => prS_at (h.pr x hx) ha hs) c4 (by omega) (by omega)]
    rw [k4, hn4]; (congr 1) <;> omega)
  rw [hn1] at r1
  rw [k2] at r2
  rw [k3] at r3
  rw [k4] at r4
  have e2 : secN bs (4 + (5 + n1) + 5 + (2 + n2)) 2 (4 + (5 + n1) + 5, false) = d.fx.length := by
    unfold secN; rw [if_neg (by decide)]; exact lsN_at c2 (by omega) (by omega)
  have e3 : secN bs (4 + (5 + n1) + (5 + (2 + n2)) + 5 + (2 + n3)) 3 (4 + (5 + n1) + (5 + (2 + n2)) + 5, false) = d.aw.length := by
    unfold secN; rw [if_neg (by decide)]; exact lsN_at c3 (by omega) (by omega)
  have e4 : secN bs (4 + (5 + n1) + (5 + (2 + n2)) + (5 + (2 + n3)) + 5 + (2 + n4)) 4 (4 + (5 + n1) + (5 + (2 + n2)) + (5 + (2 + n3)) + 5, false) = d.pr.length := by
    unfold secN; rw [if_neg (by decide)]; exact lsN_at c4 (by omega) (by omega)
  have e1 : secN bs (4 + 5 + n1) 1 (4 + 5, false) = 1 := by unfold secN; rw [if_pos rfl]
  rw [e1] at r1
  rw [e2] at r2
  rw [e3] at r3
  rw [e4] at r4
  have r5 : rdG bs 0 5 bs.length = some [] := by unfold rdG; rw [if_pos rfl]
  have hrg : rdG bs 4 1 4 = some (dbSecs d) := by
    rw [r1, show 4 + 5 + n1 = 4 + (5 + n1) by omega, r2, show 4 + (5 + n1) + 5 + (2 + n2) = 4 + (5 + n1) + (5 + (2 + n2)) by omega, r3, show 4 + (5 + n1) + (5 + (2 + n2)) + 5 + (2 + n3) = 4 + (5 + n1) + (5 + (2 + n2)) + (5 + (2 + n3)) by omega, r4,
      show 4 + (5 + n1) + (5 + (2 + n2)) + (5 + (2 + n3)) + 5 + (2 + n4) = bs.length by omega, r5]
    unfold dbSecs
    rw [hn1, hn2, hn3, hn4]
    simp only [Option.map_some]
    rw [show 9 + n1 + 5 = 4 + (5 + n1) + 5 by omega, show 4 + (5 + n1) + 5 + (2 + n2) + 5 = 4 + (5 + n1) + (5 + (2 + n2)) + 5 by omega, show 4 + (5 + n1) + (5 + (2 + n2)) + 5 + (2 + n3) + 5 = 4 + (5 + n1) + (5 + (2 + n2)) + (5 + (2 + n3)) + 5 by omega]
  have hst : 9 + loN (tkV bs bs.length 4 (5, false)) = 9 + n1 := by
    have s1' := s1
    unfold secB at s1'
    have h2 := s1'.left.right
    rw [show [UInt8.ofNat 1].length = 1 from rfl] at h2
    rw [tkV_at h2 (lowB_len _ _) (by omega), loN_lowB, hn1, Nat.mod_eq_of_lt (by omega)]
  have hhd : imHdF bs = d.hd := by
    unfold imHdF
    rw [hst]
    have hnm := h.nm
    have hcy := h.cy
    have hfr := h.fr
    have htu := h.tu
    have hla := h.la
    have hlo := h.lo
    unfold I64 at hcy hfr htu hla hlo
    have q0 := c1
    unfold hdB at q0
    rw [txt1] at q0
    have t1 := txS_at (st := 9 + n1) q0.left (by omega) (by omega)
    have t2 := txV_at (st := 9 + n1) q0.left (by omega) (by omega)
    have q1 := q0.right
    rw [List.length_cons, show 4 + 5 + (d.hd.nm.length + 1) = 4 + 5 + 1 + d.hd.nm.length by omega] at q1
    have eN : numB [d.hd.cy, d.hd.fr, d.hd.tu, d.hd.la, d.hd.lo] = lowB d.hd.cy 8 ++ (lowB d.hd.fr 8 ++ (lowB d.hd.tu 8 ++ (lowB d.hd.la 8 ++ (lowB d.hd.lo 8 ++ [])))) := rfl
    rw [eN] at q1
    have v1 := q1.left
    have q2 := q1.right
    rw [lowB_len] at q2
    have v2 := q2.left
    have q3 := q2.right
    rw [lowB_len] at q3
    have v3 := q3.left
    have q4 := q3.right
    rw [lowB_len] at q4
    have v4 := q4.left
    have q5 := q4.right
    rw [lowB_len] at q5
    have v5 := q5.left
    unfold hdV
    rw [show ((9 : Nat), false) = (4 + 5, false) from rfl, t1, t2, n8x_at 1 (by omega), n8x_at 2 (by omega), n8x_at 3 (by omega), n8x_at 4 (by omega)]
    rw [n8V_at v1 (by omega) (by omega), n8V_at v2 (by omega) (by omega), n8V_at v3 (by omega) (by omega), n8V_at v4 (by omega) (by omega), n8V_at v5 (by omega) (by omega)]
  unfold rdF
  rw [if_pos hm, hrg, hhd]
  rfl
end Go.Proofs.YtfdhinbojbohcaaGreatDoor
