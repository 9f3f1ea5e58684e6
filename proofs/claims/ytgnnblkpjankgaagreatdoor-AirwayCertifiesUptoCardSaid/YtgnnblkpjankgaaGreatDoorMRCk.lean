/-
  Several texts as one.
  Contract: the reference's Add: the sum, or the nearest int64.
  The reference's verdict on a way: looking up labels by their place; the row of references in memory.
  Contract: the reference's verdict on a way: its CheckWay.
-/
import Derived.Test.YtgnnblkpjankgaaGreatDoorMCk
import Derived.Test.YtgnnblkpjankgaaGreatDoorRReach
import Derived.Test.YtgnnblkpjankgaaGreatDoorMAtl
namespace Go.Proofs.YtgnnblkpjankgaaGreatDoor
open Go.RowKit Go.Lib
set_option linter.unusedVariables false
set_option linter.unusedSimpArgs false
set_option maxHeartbeats 4000000 in
theorem radd_any (a b : Int) (w : World) (ha : -9223372036854775808 ≤ a ∧ a ≤ 9223372036854775807) (hb : -9223372036854775808 ≤ b ∧ b ≤ 9223372036854775807) :
    Calls Tryz.prog 29 #[.int .i64 a, .int .i64 b] w fun e w' => e = .returned (.int .i64 (satA a b)) ∧ Below w.heap.size w w' := by
  obtain ⟨ua, hua⟩ : ∃ x, IntKind.u64.wrap a = x := ⟨_, rfl⟩
  obtain ⟨ub, hub⟩ : ∃ x, IntKind.u64.wrap b = x := ⟨_, rfl⟩
  obtain ⟨us, hus⟩ : ∃ x, IntKind.u64.wrap (ua + ub) = x := ⟨_, rfl⟩
  obtain ⟨s, hs⟩ : ∃ s, IntKind.i64.wrap us = s := ⟨_, rfl⟩
  have hsv : s = (if 9223372036854775807 < a + b then a + b - 18446744073709551616 else if a + b < -9223372036854775808 then a + b + 18446744073709551616 else a + b) := by
    rw [← hs, IntKind.wrap_i64, ← hus, ← hua, ← hub, IntKind.wrap_u64, IntKind.wrap_u64, IntKind.wrap_u64]
    split
    · omega
    · split <;> omega
  have HSV := Lib.hid hsv
  have HA := Lib.hid ha
  have HB := Lib.hid hb
  have key : Hid ((0 ≤ a → 0 ≤ b → s < 0 → satA a b = 9223372036854775807) ∧ (a < 0 → b < 0 → 0 ≤ s → satA a b = -9223372036854775808) ∧ (¬ (0 ≤ a ∧ 0 ≤ b ∧ s < 0) → ¬ (a < 0 ∧ b < 0 ∧ 0 ≤ s) → satA a b = s)) := by
    refine ⟨fun h1 h2 h3 => ?_, fun h1 h2 h3 => ?_, fun h1 h2 => ?_⟩
    · refine satA_hi ?_
      split at hsv
      · assumption
      · split at hsv <;> omega
    · refine satA_lo ?_
      split at hsv
      · omega
      · split at hsv
        · assumption
        · omega
    · split at hsv
      · exfalso; omega
      · split at hsv
        · exfalso; omega
        · rw [hsv]; exact satA_in (by omega)
  obtain ⟨r, hr⟩ : ∃ r, satA a b = r := ⟨_, rfl⟩
  rw [hr] at key ⊢
  clear hsv hr ha hb HSV HA HB
  by_cases ga : 0 ≤ a <;> by_cases gb : 0 ≤ b <;> by_cases gs : 0 ≤ s
  all_goals first
    | have hr : r = 9223372036854775807 := key.out.1 (by omega) (by omega) (by omega)
    | have hr : r = -9223372036854775808 := key.out.2.1 (by omega) (by omega) (by omega)
    | have hr : r = s := key.out.2.2 (by omega) (by omega)
  all_goals
    first | have a2 : a < 0 := by omega | have a2 : ¬ a < 0 := by omega
    first | have b2 : b < 0 := by omega | have b2 : ¬ b < 0 := by omega
    first | have s2 : s < 0 := by omega | have s2 : ¬ s < 0 := by omega
    subst hr
    clear key
    go_enter Tryz.func29, Tryz.ntmps29
    go_wp2_with fail
    go_ret
    exact ⟨rfl, Below.refl _ _⟩
end Go.Proofs.YtgnnblkpjankgaaGreatDoor
namespace Go.Proofs.YtgnnblkpjankgaaGreatDoor
open Go.RowKit Go.Lib
set_option linter.unusedVariables false
set_option linter.unusedSimpArgs false
def refsOf (l : List (Rf × Lb)) : List Rf := l.map (·.1)
theorem refsOf_at {l : List (Rf × Lb)} {k : Nat} (h : k < l.length) : (refsOf l)[k]? = some l[k].1 := by unfold refsOf; rw [List.getElem?_map, List.getElem?_eq_getElem h]; rfl
theorem refsOf_len (l : List (Rf × Lb)) : (refsOf l).length = l.length := by unfold refsOf; rw [List.length_map]
theorem asc_lt {l : List (Rf × Lb)} (h : ascB l = true) {i j : Nat} (hij : i < j) (hj : j < l.length) : l[i].1 < l[j].1 := by
  have h1 := asc_far (n := l.length) (fun i hi _ => ascB_iff.1 h i hi) (j - i - 1) i (by omega) (by omega)
  have e : i + (j - i - 1) + 1 = j := by omega
  simp only [e] at h1
  exact h1
theorem leB_of_lt {a b : Rf} (h : a < b) : leB a b = true := by
  rw [← Bool.not_eq_false, leB_lt]
  intro h2
  exact List.lt_irrefl _ (List.lt_trans h h2)
theorem refs_srt {l : List (Rf × Lb)} (h : ascB l = true) : (refsOf l).Pairwise (fun a b => leB a b = true) := by
  rw [List.pairwise_iff_getElem]
  intro i j hi hj hij
  have hj' : j < l.length := by rw [refsOf_len] at hj; exact hj
  have := asc_lt h hij hj'
  simp only [refsOf, List.getElem_map]
  exact leB_of_lt this
theorem find_firstG {α : Type} {P : α → Bool} : ∀ {l : List α} {j : Nat} (hj : j < l.length), (∀ e ∈ l.take j, P e = false) → P l[j] = true → l.find? P = some l[j]
  | [], _, hj, _, _ => absurd hj (by simp)
  | a :: l, 0, _, _, h => by rw [List.find?_cons]; simp only [List.getElem_cons_zero] at h ⊢; rw [h]
  | a :: l, j + 1, hj, hno, h => by
    have h0 := hno a (by rw [List.take_succ_cons]; exact List.mem_cons_self ..)
    rw [List.find?_cons, h0]
    simp only [List.getElem_cons_succ] at h ⊢
    exact find_firstG (by simpa using hj) (fun e he => hno e (by rw [List.take_succ_cons]; exact List.mem_cons_of_mem _ he)) h
/-- a label that is there -/
theorem lk_plc {l : List (Rf × Lb)} (h : ascB l = true) {r : Rf} (hp : (refsOf l)[plc r (refsOf l)]? = some r) : ∃ hk : plc r (refsOf l) < l.length, l[plc r (refsOf l)].1 = r ∧ lkL l r = some l[plc r (refsOf l)].2.1 := by
  obtain ⟨k, hkk⟩ : ∃ k, plc r (refsOf l) = k := ⟨_, rfl⟩
  simp only [hkk] at hp ⊢
  obtain ⟨hk, _⟩ := List.getElem?_eq_some_iff.1 hp
  rw [refsOf_len] at hk
  rw [refsOf_at hk, Option.some.injEq] at hp
  refine ⟨hk, hp, ?_⟩
  unfold lkL
  rw [find_firstG hk (fun e he => ?_) (decide_eq_true hp)]
  · rfl
  · obtain ⟨i, hi, rfl⟩ := List.getElem_of_mem he
    rw [List.length_take] at hi
    rw [List.getElem_take]
    refine decide_eq_false fun e => ?_
    have h1 := asc_lt h (i := i) (j := k) (by omega) hk
    rw [e, hp] at h1
    exact List.lt_irrefl _ h1
theorem lk_no {l : List (Rf × Lb)} (h : ascB l = true) {r : Rf} (hp : ¬ (refsOf l)[plc r (refsOf l)]? = some r) : lkL l r = none := by
  refine lk_none fun x hx e => hp ((plc_mem r _ (refs_srt h)).1 ?_)
  unfold refsOf
  exact List.mem_map.2 ⟨x, hx, e⟩
/-- a row of references: one block -/
structure StQ (g n : Nat) (q : Nat → Rf) (w : World) : Prop where
  c : ∀ k, k < n → w.cell? ⟨g, k, none⟩ = some (.string (sb (q k)))
  fz : ∀ j, w.frozen? ⟨g, j, none⟩ = false
  lt : g < w.heap.size
theorem StQ.made (n : Nat) (t : TypeId) (w : World) : StQ w.heap.size n (fun _ => []) (w.alloc (.cells (madeCells #[.string ⟨#[]⟩] n) t)) := by
  refine ⟨fun k hk => ?_, fun j => by simp [go_sem], by rw [World.size_alloc]; omega⟩
  have hsz : (madeCells #[Value.string ⟨#[]⟩] n)[k]? = some (.string ⟨#[]⟩) := by
    rw [← Array.getElem?_toList, toList_madeCells_one, List.getElem?_replicate, if_pos hk]
  have : (w.alloc (.cells (madeCells #[.string ⟨#[]⟩] n) t)).cell? ⟨w.heap.size, k, none⟩ = (madeCells #[Value.string ⟨#[]⟩] n)[k]? := by simp [go_sem]
  rw [this, hsz]; rfl
theorem StQ.grw {g n : Nat} {q : Nat → Rf} {w w' : World} (h : StQ g n q w) {row : Option Nat} (hg : w.grownBy w' row) (hr : some g ≠ row) : StQ g n q w' :=
  ⟨fun k hk => (hg.cell_far ⟨g, k, none⟩ h.lt hr).trans (h.c k hk), fun j => (hg.frozen_far ⟨g, j, none⟩ h.lt hr).trans (h.fz j), Nat.lt_of_lt_of_le h.lt hg.size⟩
theorem StQ.below {g n : Nat} {q : Nat → Rf} {w w' : World} (h : StQ g n q w) (hb : Below w.heap.size w w') : StQ g n q w' := h.grw (grw_below hb none) (by simp)
theorem StQ.put {g n : Nat} {q : Nat → Rf} {w : World} (h : StQ g n q w) {k : Nat} (hk : k < n) (r : Rf) : StQ g n (fun j => if j = k then r else q j) (w.setCell ⟨g, k, none⟩ (.string (sb r))) := by
  refine ⟨fun j hj => ?_, fun j => by rw [World.frozen?_setCell]; exact h.fz j, by rw [World.size_setCell]; exact h.lt⟩
  by_cases e : j = k
  · subst e
    rw [if_pos rfl]
    exact World.cell?_setCell_same _ _ _ (h.c j hj)
  · rw [if_neg e, World.cell?_setCell_other _ _ _ _ (fun x => by injection x with _ x _; exact e x.symm)]
    exact h.c j hj
theorem StQ.congr {g n : Nat} {q q' : Nat → Rf} {w : World} (h : StQ g n q w) (e : ∀ k, k < n → q' k = q k) : StQ g n q' w := ⟨fun k hk => by rw [e k hk]; exact h.c k hk, h.fz, h.lt⟩
theorem StQ.strR {g n : Nat} {q : Nat → Rf} {l : List Rf} {w : World} (h : StQ g n q w) (hn : l.length = n) (hm : n ≤ maxLen) (hq : ∀ k, (hk : k < l.length) → q k = l[k]) : StrR w (.slice (some ⟨g, 0, none⟩) n n) l := by
  refine ⟨by unfold rfcells; simp, some ⟨g, 0, none⟩, n, by rw [hn], by rw [hn]; exact Nat.le_refl _, hm, fun _ => ⟨g, 0, rfl, h.lt, fun j u hj => ?_⟩⟩
  unfold rfcells at hj
  rw [List.getElem?_map] at hj
  obtain ⟨hj2, _⟩ : ∃ h : j < l.length, True := by
    by_cases hh : j < l.length
    · exact ⟨hh, trivial⟩
    · rw [List.getElem?_eq_none (by omega)] at hj; cases hj
  rw [List.getElem?_eq_getElem hj2] at hj
  rw [Nat.zero_add, h.c j (by omega), hq j hj2]
  exact hj
/-- the references while they are being laid -/
def rq (l : List (Rf × Lb)) (k j : Nat) : Rf := if j < k then (refsOf l).getD j [] else []
end Go.Proofs.YtgnnblkpjankgaaGreatDoor
namespace Go.Proofs.YtgnnblkpjankgaaGreatDoor
open Go.RowKit Go.Lib
set_option linter.unusedVariables false
set_option linter.unusedSimpArgs false
theorem FrB.setC {B bw : Nat} {w w' : World} (h : FrB B bw w w') (j : Nat) (u : Value) : FrB B bw w (w'.setCell ⟨bw, j, none⟩ u) := h.trans (FrB.setCell (B := B) (bw := bw) w' (a := ⟨bw, j, none⟩) (.inl rfl) u)
theorem FrB.drewC {B bw : Nat} {w w' : World} (h : FrB B bw w w') (n : Nat) : FrB B bw w (w'.drewN n) := ⟨h.os, h.tape, h.output, h.size, h.block⟩
theorem StQ.drewC {g n : Nat} {q : Nat → Rf} {w : World} (h : StQ g n q w) (m : Nat) : StQ g n q (w.drewN m) := h.below (below_drewN' (Below.refl _ _) m)
set_option maxRecDepth 100000 in
set_option maxHeartbeats 8000000 in
theorem rcheckWay_any (v fv hv lv : Value) (L : List Aw) (F : List Fx) (a b : ByteArray) (y : Wy) (w : World) (h : AwsR w v L) (hf : FxsR w fv F) (hz : SzL F) (ha : a.size ≤ maxLen) (hb : b.size ≤ maxLen)
    (hh : RdH w hv y.hops) (hl : LbsR w lv y.labs) (hfl : ∀ x ∈ y.labs, x.1.length ≤ maxLen) (hfb : ∀ x ∈ y.labs, -9223372036854775808 ≤ x.2.1 ∧ x.2.1 ≤ 9223372036854775807) (hhn : y.hops.length ≤ 1000000000) (hln : y.labs.length ≤ 1000000000) :
    Calls Tryz.prog 9 #[v, fv, .string a, .string b, .agg #[hv, .int .i64 y.len, lv]] w (CkPost L F (bl a) (bl b) y w) := by
  obtain ⟨il, hil, hy0, hy1, hy2⟩ := info_parts infoString
  obtain ⟨s, rfl⟩ : ∃ s, a = sb s := ⟨bl a, (sb_bl a).symm⟩
  obtain ⟨t, rfl⟩ : ∃ t, b = sb t := ⟨bl b, (sb_bl b).symm⟩
  have hsl : s.length ≤ maxLen := ha
  have htl : t.length ≤ maxLen := hb
  rw [bl_sb, bl_sb]
  obtain ⟨hs, yn, lb⟩ := y
  simp only at hh hl hfl hfb hhn hln ⊢
  have H := Lib.hid h
  have HF := Lib.hid hf
  have HZ := Lib.hid hz
  have HFL := Lib.hid hfl
  have HFB := Lib.hid hfb
  obtain ⟨Ah, ch, rfl, hch, hchm⟩ := hh.form
  obtain ⟨Al, cl, rfl, hcl, hclm⟩ := hl.form2
  unfold maxLen at hchm hclm
  obtain ⟨hn, hhe⟩ : ∃ k, hs.length = k := ⟨_, rfl⟩
  obtain ⟨ln, hle⟩ : ∃ k, lb.length = k := ⟨_, rfl⟩
  have HHE := Lib.hid hhe
  have HLE := Lib.hid hle
  have HH := Lib.hid hh
  have HL := Lib.hid hl
  rw [hhe] at hch hhn HH ⊢
  rw [hle] at hcl hln HL ⊢
  obtain ⟨w0, hw0⟩ : ∃ W, w.alloc (.cells #[.slice Ah hn ch, .int .i64 yn, .slice Al ln cl] 27) = W := ⟨_, rfl⟩
  have B0 : Hid (Below w.heap.size w w0) := by rw [← hw0]; exact (Below.refl _ _).alloc (Nat.le_refl _) _
  have C0 : Hid (w0.cell? ⟨w.heap.size, 0, none⟩ = some (.slice Ah hn ch) ∧ w0.cell? ⟨w.heap.size, 1, none⟩ = some (.int .i64 yn) ∧ w0.cell? ⟨w.heap.size, 2, none⟩ = some (.slice Al ln cl) ∧ w.heap.size < w0.heap.size) := by rw [← hw0]; unfold Hid; simp [go_sem]
  clear h hf hz hfl hfb hhe hle hh hl
  go_enter Tryz.func9, Tryz.ntmps9
  go_wp2_with fail
  try rw [hw0]
  clear hw0
  refine (ready_any v fv L F (sb s) (sb t) _ (H.out.below B0.out) (HF.out.below B0.out) HZ.out).mono ?_
  rintro e w1 ⟨er, rfl, hop, hb1⟩
  rw [bl_sb, bl_sb] at hop
  have HOP := Lib.hid hop
  have B1 := Lib.hid (Below.then_ B0.out hb1)
  have C1 : Hid (w1.cell? ⟨w.heap.size, 0, none⟩ = some (.slice Ah hn ch) ∧ w1.cell? ⟨w.heap.size, 1, none⟩ = some (.int .i64 yn) ∧ w1.cell? ⟨w.heap.size, 2, none⟩ = some (.slice Al ln cl) ∧ w.heap.size < w1.heap.size) := by
    obtain ⟨c0, c1, c2, lt⟩ := C0.out
    exact ⟨(hb1.cell (p := ⟨w.heap.size, 0, none⟩) lt).trans c0, (hb1.cell (p := ⟨w.heap.size, 1, none⟩) lt).trans c1, (hb1.cell (p := ⟨w.heap.size, 2, none⟩) lt).trans c2, Nat.lt_of_lt_of_le lt hb1.size⟩
  clear hop hb1 B0 C0
  by_cases h0 : er = 0
  case neg =>
    have e0 : (er != 0) = true := bne_iff_ne.2 h0
    have H0 := Lib.hid h0
    clear h0
    go_wp2
    go_ret
    exact ⟨er, HOP.out, by rw [if_neg H0.out]; rfl, B1.out⟩
  subst h0
  have hlL := chkL_few HOP.out.zero.1
  have HC := Lib.hid HOP.out.zero.1
  have hF4 := HOP.out.zero.2
  have HP : Hid (∀ (n : Int) (w' : World), ckWay (hopsL L) (wtF F) s t ⟨hs, yn, lb⟩ = n → Below w.heap.size w w' → CkPost L F s t ⟨hs, yn, lb⟩ w (.returned (.int .i64 n)) w') := fun n w' h1 h2 => ⟨0, HOP.out, by rw [if_pos rfl, h1], h2⟩
  have hmk : ∀ W : World, (Instr.makeSlice 71 (.int .i64 (ln : Int)) (.int .i64 (ln : Int))).run Tryz.prog W = .ok (.slice (some ⟨W.heap.size, 0, none⟩) ln ln) (W.alloc (.cells (madeCells #[.string ⟨#[]⟩] ln) 9)) := fun W => by
    have h := run_make W 71 9 il (.string ⟨#[]⟩) Tryz.underlying71 hil hy0 .i64 .i64 (ln : Int) (ln : Int) (by omega) (by omega) (by rw [hy2]; omega) (by omega)
    rw [hy1, Int.toNat_natCast, Nat.mul_one] at h
    exact h
  obtain ⟨w2, hw2⟩ : ∃ W, w1.alloc (.cells (madeCells #[.string ⟨#[]⟩] ln) 9) = W := ⟨_, rfl⟩
  have HW2 := Lib.hid hw2
  have B12 : Hid (Below w1.heap.size w1 w2) := by rw [← hw2]; exact (Below.refl _ _).alloc (Nat.le_refl _) _
  have Q2 : Hid (StQ w1.heap.size ln (rq lb 0) w2) := by rw [← hw2]; exact (StQ.made ln _ w1).congr (fun k _ => by unfold rq; rw [if_neg (by omega)])
  have S2 : Hid (w2.heap.size = w1.heap.size + 1) := by rw [← hw2]; unfold Hid; simp
  obtain ⟨c0, c1, c2, clt⟩ := C1.out
  clear hw2
  go_wp2_with fail
  rw [HW2.out]
  clear HW2 c0 c1 c2 hmk
  go_loopw [51] (fun iv wr => ∃ k : Nat, k ≤ ln ∧ iv = .int .i64 k ∧ Hid (∀ i, (hi : i + 1 < lb.length) → i + 1 < k → lb[i].1 < lb[i + 1].1) ∧ Hid (StQ w1.heap.size ln (rq lb k) wr) ∧ Hid (FrB w2.heap.size w1.heap.size w2 wr)) (fun iv _ => ln - (intOf iv).toNat)
  case atStart => exact ⟨0, Nat.zero_le _, by first | rfl | go_num, Lib.hid (fun i _ h => absurd h (by omega)), Q2, Lib.hid (FrB.refl _ _ _)⟩
  case round =>
    obtain ⟨k, hk, rfl, hasc, hsq, hfr⟩ := hrel
    have BW : Hid (Below w1.heap.size w1 wr) := B12.out.trans (hfr.out.to_below (by have := S2.out; omega) (Nat.le_refl _))
    obtain ⟨c0', c1', c2', _⟩ := C1.out
    have k2 := (BW.out.cell (p := ⟨w.heap.size, 2, none⟩) clt).trans c2'
    have k1 := (BW.out.cell (p := ⟨w.heap.size, 1, none⟩) clt).trans c1'
    have k0 := (BW.out.cell (p := ⟨w.heap.size, 0, none⟩) clt).trans c0'
    clear c0' c1' c2'
    by_cases hlt : k < ln
    · have hkl : k < lb.length := by rw [HLE.out]; exact hlt
      obtain ⟨gl, ol, cl', hA, hgl, x0, x1, x2⟩ := LbsR.at2 (HL.out.below2 (Below.then_ B1.out BW.out)) hkl
      rw [HLE.out] at hA
      simp only [Value.slice.injEq, true_and] at hA
      obtain ⟨rfl, rfl⟩ := hA
      have hAS : Hid ((k = 0 ∨ ∃ h0 : 0 < k, lb[k - 1].1 < lb[k].1) → ∀ i, (hi : i + 1 < lb.length) → i + 1 < k + 1 → lb[i].1 < lb[i + 1].1) := fun h i hi hik => by
        by_cases e : i + 1 = k
        · subst e
          rcases h with h | ⟨_, h⟩
          · omega
          · simpa using h
        · exact hasc.out i hi (by omega)
      have hNA : Hid ((∃ h0 : 0 < k, ¬ lb[k - 1].1 < lb[k].1) → ascB lb = false) := fun ⟨h0, h⟩ => by
        rw [← Bool.not_eq_true, ascB_iff]
        intro h2
        have := h2 (k - 1) (by omega)
        have e : k - 1 + 1 = k := by omega
        simp only [e] at this
        exact h this
      have hrk : rq lb (k + 1) k = lb[k].1 := by
        unfold rq
        rw [if_pos (by omega), List.getD_eq_getElem?_getD, refsOf_at hkl]; rfl
      have hrp : Hid (0 < k → ∃ h0 : k - 1 < lb.length, rq lb (k + 1) (k - 1) = lb[k - 1].1) := fun h0 => ⟨by omega, by
        unfold rq
        rw [if_pos (by omega), List.getD_eq_getElem?_getD, refsOf_at (show k - 1 < lb.length by omega)]; rfl⟩
      have hrq : Hid (∀ j, j ≠ k → rq lb (k + 1) j = rq lb k j) := fun j hj => by
        unfold rq
        by_cases h : j < k
        · rw [if_pos h, if_pos (by omega)]
        · rw [if_neg h, if_neg (by omega)]
      obtain ⟨⟨r, l1, l2⟩, hy⟩ : ∃ z, lb[k] = z := ⟨_, rfl⟩
      rw [hy] at x0 x1 x2 hAS hNA hrk
      simp only at x0 x1 x2 hAS hNA hrk
      have hsr : w1.heap.size < wr.heap.size := hsq.out.lt
      obtain ⟨wb, hwb⟩ : ∃ W, wr.setCell ⟨w1.heap.size, k, none⟩ (.string (sb r)) = W := ⟨_, rfl⟩
      have HWB := Lib.hid hwb
      have hsb : wb.heap.size = wr.heap.size := by rw [← hwb, World.size_setCell]
      have SB : Hid (StQ w1.heap.size ln (rq lb (k + 1)) wb) := by
        rw [← hwb]
        refine (hsq.out.put hlt r).congr fun j hj => ?_
        by_cases e : j = k
        · rw [e, if_pos rfl, hrk]
        · rw [if_neg e, hrq.out j e]
      have FB : Hid (FrB w2.heap.size w1.heap.size w2 wb) := by
        rw [← hwb]
        exact hfr.out.setC _ _
      obtain ⟨wd, hwd⟩ : ∃ W, wb.alloc (.cells #[.string (sb r), .int .i64 l1, .int .i64 l2] 59) = W := ⟨_, rfl⟩
      have HWD := Lib.hid hwd
      have BBD : Hid (Below wb.heap.size wb wd) := by rw [← hwd]; exact (Below.refl _ _).alloc (Nat.le_refl _) _
      have SD : Hid (StQ w1.heap.size ln (rq lb (k + 1)) wd) := SB.out.below BBD.out
      have FD : Hid (FrB w2.heap.size w1.heap.size w2 wd) := FB.out.trans (FrB.below BBD.out FB.out.size)
      have YD : Hid (LbB wr.heap.size r l1 l2 wd) := by rw [← hwd, ← hsb]; exact LbB.new wb r l1 l2 _
      have sc := hsq.out.c k hlt
      have sf := hsq.out.fz k
      clear hy hwb hwd hasc hsq hgl hsb
      by_cases hk0 : k = 0
      case' pos =>
        subst hk0
        rw [Nat.zero_mul, Nat.add_zero] at x0 x1 x2
        have HS := Lib.hid (hAS.out (.inl rfl))
        clear hAS hNA hrp hrk hrq
        go_wp2_with fail
        rw [HWB.out, HWD.out]
        clear sc sf x0 x1 x2
        obtain ⟨d0, d1, d2, _⟩ := YD.out
        go_quiet (fail)
      case' neg =>
        have hkp : 0 < k := by omega
        obtain ⟨hkl1, hrp1⟩ := hrp.out hkp
        have hgd : Hid (lb[k - 1].1 < r → ∀ i, (hi : i + 1 < lb.length) → i + 1 < k + 1 → lb[i].1 < lb[i + 1].1) := fun h => hAS.out (.inr ⟨hkp, h⟩)
        have hbd : Hid (¬ lb[k - 1].1 < r → ascB lb = false) := fun h => hNA.out ⟨hkp, h⟩
        have kp := SD.out.c (k - 1) (by omega)
        rw [hrp1] at kp
        obtain ⟨p0, hp0⟩ : ∃ p, lb[k - 1].1 = p := ⟨_, rfl⟩
        rw [hp0] at kp hgd hbd
        have s1 : (0 : Int) < (k : Int) := by omega
        have s2 : (0 : Int) ≤ (k : Int) - 1 := by omega
        have s3 : (k : Int) - 1 < (ln : Int) := by omega
        have s4 : (1 : Int) ≤ (k : Int) := by omega
        have s5 : ((k : Int) - 1).toNat = k - 1 := by omega
        have s6 : (k : Int) < (ln : Int) + 1 := by omega
        have s7 : Op.bytesLess (sb r).toList (sb p0).toList = decide (r < p0) := bLess_sb r p0
        have s8 : ((sb r).toList == (sb p0).toList) = decide (r = p0) := by rw [str_eq, bl_sb, bl_sb]
        have s9 : IntKind.i64.wrap ((k : Int) - 1) = (k : Int) - 1 := IntWalk.i64_in _ (by omega)
        clear hAS hNA hrp hrk hrq hrp1 hp0 hkl1
        by_cases hpr : p0 < r
        case' pos =>
          have HS := Lib.hid (hgd.out hpr)
          rw [decide_eq_false (fun h => List.lt_irrefl _ (List.lt_trans h hpr))] at s7
          rw [decide_eq_false (fun h => by rw [h] at hpr; exact List.lt_irrefl _ hpr)] at s8
          clear hpr hgd hbd
          go_wp2_with fail
          rw [HWB.out, HWD.out]
          clear sc sf x0 x1 x2
          obtain ⟨d0, d1, d2, _⟩ := YD.out
          go_quiet (fail)
        case' neg =>
          have HBAD := Lib.hid (hbd.out hpr)
          by_cases he : r = p0
          · rw [decide_eq_true he] at s8
            clear hpr hgd hbd he
            go_wp2_with fail
            rw [HWB.out, HWD.out]
            clear sc sf x0 x1 x2
            obtain ⟨d0, d1, d2, _⟩ := YD.out
            go_quiet (fail)
            go_wp2
            go_ret
            exact HP.out 4 _ (by unfold ckWay; exact if_pos HBAD.out) (below_drewN' (Below.then_ B1.out (B12.out.trans (FD.out.to_below (by have := S2.out; omega) (Nat.le_refl _)))) _)
          · have hlt2 : r < p0 := by
              rw [← leB_lt, ← Bool.not_eq_true]
              intro h
              refine he (leB_anti ?_ h)
              rw [← Bool.not_eq_false, leB_lt]
              exact hpr
            rw [decide_eq_true hlt2] at s7
            rw [decide_eq_false he] at s8
            clear hpr hgd hbd he hlt2
            go_wp2_with fail
            rw [HWB.out, HWD.out]
            clear sc sf x0 x1 x2
            obtain ⟨d0, d1, d2, _⟩ := YD.out
            go_quiet (fail)
            go_wp2
            go_ret
            exact HP.out 4 _ (by unfold ckWay; exact if_pos HBAD.out) (below_drewN' (Below.then_ B1.out (B12.out.trans (FD.out.to_below (by have := S2.out; omega) (Nat.le_refl _)))) _)
      all_goals
        go_wp2
        go_roundw
        case rel => exact ⟨_, hlt, by go_num, HS, by first | exact SD | exact SD.out.drewC _, by first | exact FD | exact FD.out.drewC _⟩
        case measure => simp [intOf]; omega
    · have hkn : k = ln := by omega
      subst hkn
      have HASC : Hid (ascB lb = true) := ascB_iff.2 (fun i hi => hasc.out i hi (by rw [← HLE.out]; exact hi))
      obtain ⟨w3, rfl⟩ : ∃ w3, w3 = wr := ⟨_, rfl⟩
      have HR3 : Hid (StrR w3 (.slice (some ⟨w1.heap.size, 0, none⟩) k k) (refsOf lb)) := hsq.out.strR (by rw [refsOf_len, HLE.out]) (by unfold maxLen; omega) (fun i hi => by
        unfold rq
        rw [if_pos (by rw [← HLE.out, ← refsOf_len]; exact hi), List.getD_eq_getElem?_getD, List.getElem?_eq_getElem hi]; rfl)
      have B3 := Lib.hid (Below.then_ B1.out BW.out)
      have HL3 := Lib.hid (HL.out.below2 B3.out)
      have hlt3 : w.heap.size < w3.heap.size := Nat.lt_of_lt_of_le clt BW.out.size
      have hcks : Hid (ckWay (hopsL L) (wtF F) s t ⟨hs, yn, lb⟩ = if lkL lb s ≠ some 0 then 4 else if lb.all (labOk (hopsL L) (wtF F) lb) = false then 9 else if walkOk (hopsL L) s hs = false then 6 else if endW s hs ≠ t then 6 else if yn ≠ sumW (wtF F) s hs then 1 else if lkL lb t ≠ some yn then 11 else 0) := by
        unfold Hid ckWay
        rw [if_neg (by rw [HASC.out]; simp)]
      clear hasc hsq hfr BW hlt Q2
      go_wp2_with fail
      refine (place_any _ (refsOf lb) (sb s) _ HR3.out).mono ?_
      rintro e w3' ⟨bs, rfl, hbs, rfl⟩
      rw [bl_sb] at hbs ⊢
      by_cases hin : (refsOf lb)[plc s (refsOf lb)]? = some s
      case neg =>
        have hbf : bs = false := by rw [hbs.out]; exact decide_eq_false hin
        subst hbf
        have HR : Hid (ckWay (hopsL L) (wtF F) s t ⟨hs, yn, lb⟩ = 4) := by unfold Hid; rw [hcks.out, if_pos (by rw [lk_no HASC.out hin]; simp)]
        clear hin hbs
        go_wp2
        go_ret
        exact HP.out 4 _ HR.out B3.out
      have hbf : bs = true := by rw [hbs.out]; exact decide_eq_true hin
      subst hbf
      obtain ⟨hks, hke, hlk⟩ := lk_plc HASC.out hin
      obtain ⟨gl, ol, cl', hA, hgl, x0, x1, x2⟩ := LbsR.at2 HL3.out hks
      rw [HLE.out] at hA
      simp only [Value.slice.injEq, true_and] at hA
      obtain ⟨rfl, rfl⟩ := hA
      have hks2 : plc s (refsOf lb) < k := by rw [← HLE.out]; exact hks
      obtain ⟨⟨ry, l1, l2⟩, hy⟩ : ∃ z, lb[plc s (refsOf lb)] = z := ⟨_, rfl⟩
      rw [hy] at x0 x1 x2 hlk
      simp only at x0 x1 x2 hlk
      obtain ⟨ks, hkse⟩ : ∃ z, plc s (refsOf lb) = z := ⟨_, rfl⟩
      rw [hkse] at x0 x1 x2 hks2 ⊢
      have f1 : (ks : Int) < (k : Int) := by omega
      have f2 : (0 : Int) ≤ (ks : Int) := by omega
      clear hke hy hkse hbs hin hgl hks
      by_cases hz0 : l1 = 0
      case neg =>
        have HR : Hid (ckWay (hopsL L) (wtF F) s t ⟨hs, yn, lb⟩ = 4) := by unfold Hid; rw [hcks.out, if_pos (by rw [hlk]; simpa using hz0)]
        have e0 : (l1 != 0) = true := bne_iff_ne.2 hz0
        clear hlk hz0
        go_wp2
        go_ret
        exact HP.out 4 _ HR.out B3.out
      subst hz0
      have hck2 : Hid (ckWay (hopsL L) (wtF F) s t ⟨hs, yn, lb⟩ = if lb.all (labOk (hopsL L) (wtF F) lb) = false then 9 else if walkOk (hopsL L) s hs = false then 6 else if endW s hs ≠ t then 6 else if yn ≠ sumW (wtF F) s hs then 1 else if lkL lb t ≠ some yn then 11 else 0) := by
        unfold Hid; rw [hcks.out, if_neg (by rw [hlk]; simp)]
      clear hlk hcks
      go_wp2_with fail
      have HF3 := Lib.hid (HF.out.below B3.out)
      have m2 := k2
      have hmix := mixedD
      go_loopw [94] (fun iv wr => ∃ j : Nat, j ≤ k ∧ iv = .int .i64 j ∧ Hid (∀ z ∈ lb.take j, labOk (hopsL L) (wtF F) lb z = true) ∧ Hid (Below w3.heap.size w3 wr)) (fun iv _ => k - (intOf iv).toNat)
      case atStart => exact ⟨0, Nat.zero_le _, by first | rfl | go_num, Lib.hid (fun z hz => by simp at hz), Lib.hid (Below.refl _ _)⟩
      case round =>
        obtain ⟨j, hj, rfl, hok, hbr⟩ := hrel
        by_cases hlt : j < k
        · have hjl : j < lb.length := by rw [HLE.out]; exact hlt
          have HLr := Lib.hid (HL3.out.below2 hbr.out)
          obtain ⟨g4, o4, cl4, hA, hgl, x0, x1, x2⟩ := LbsR.at2 HLr.out hjl
          rw [HLE.out] at hA
          simp only [Value.slice.injEq, true_and, Option.some.injEq, Addr.mk.injEq, and_true] at hA
          obtain ⟨⟨rfl, rfl⟩, rfl⟩ := hA
          have hfr := HFL.out _ (List.getElem_mem hjl)
          have hfb := HFB.out _ (List.getElem_mem hjl)
          have hmem : lb[j] ∈ lb := List.getElem_mem hjl
          have hST : Hid (labOk (hopsL L) (wtF F) lb lb[j] = true → ∀ z ∈ lb.take (j + 1), labOk (hopsL L) (wtF F) lb z = true) := fun h z hz => by
            rw [List.take_add_one, List.getElem?_eq_getElem hjl, List.mem_append] at hz
            rcases hz with hz | hz
            · exact hok.out z hz
            · have : z = lb[j] := by simpa using hz
              rw [this]; exact h
          have hBAD : Hid (labOk (hopsL L) (wtF F) lb lb[j] = false → ckWay (hopsL L) (wtF F) s t ⟨hs, yn, lb⟩ = 9) := fun h => by
            rw [hck2.out, if_pos]
            rw [← Bool.not_eq_true, List.all_eq_true]
            intro h2
            rw [h2 _ hmem] at h
            cases h
          obtain ⟨⟨r, l1, l2⟩, hy⟩ : ∃ z, lb[j] = z := ⟨_, rfl⟩
          rw [hy] at x0 x1 x2 hfr hfb hST hBAD
          simp only at x0 x1 x2 hfr hfb
          obtain ⟨w4, hw4⟩ : ∃ W, wr.alloc (.cells #[.string (sb r), .int .i64 l1, .int .i64 l2] 59) = W := ⟨_, rfl⟩
          have HW4 := Lib.hid hw4
          have B4 : Hid (Below w3.heap.size w3 w4) := by rw [← hw4]; exact hbr.out.alloc hbr.out.size _
          have Y4 : Hid (LbB wr.heap.size r l1 l2 w4) := by rw [← hw4]; exact LbB.new wr r l1 l2 _
          have BW4 := Lib.hid (Below.then_ B3.out B4.out)
          clear hy hw4 hok hmem hjl HLr hgl
          go_wp2_with fail
          rw [HW4.out]
          refine (hops_rindex_any v L (sb r) _ (H.out.below BW4.out) hlL).mono ?_
          rintro e w5 ⟨vh, rfl, hvh, hb5⟩
          rw [bl_sb] at hvh
          have B5 := Lib.hid (Below.then_ B4.out hb5)
          have Y5 := Lib.hid (Y4.out.below hb5)
          have hhl := hopsL_len L r
          have HLO : Hid (labOk (hopsL L) (wtF F) lb (r, (l1, l2)) = (hopsL L r).all (hopOk (wtF F) lb (r, (l1, l2)))) := rfl
          have HFT : Hid (∀ p ∈ hopsL L r, p.dst.length ≤ maxLen) := fun p hp => chkL_fit HC.out p.dst (nxt_mem L r p.dst (List.mem_map.2 ⟨p, hp, rfl⟩))
          obtain ⟨hl, hhe⟩ : ∃ l, hopsL L r = l := ⟨_, rfl⟩
          rw [hhe] at hvh hhl HLO HFT
          obtain ⟨A5, c5, rfl, hc51, hc52⟩ := hvh.form
          unfold maxLen at hc52
          obtain ⟨m, hm⟩ : ∃ k, hl.length = k := ⟨_, rfl⟩
          have HM5 := Lib.hid hm
          have HV := Lib.hid hvh
          rw [hm] at hc51 hhl HV ⊢
          clear hvh hhe hm hb5 HW4 x0 x1 x2
          go_wp2_with fail
          go_loopw [103] (fun iv wr => ∃ i : Nat, i ≤ m ∧ iv = .int .i64 i ∧ Hid (∀ p ∈ hl.take i, hopOk (wtF F) lb (r, (l1, l2)) p = true) ∧ Hid (Below w5.heap.size w5 wr)) (fun iv _ => m - (intOf iv).toNat)
          case atStart => exact ⟨0, Nat.zero_le _, by first | rfl | go_num, Lib.hid (fun z hz => by simp at hz), Lib.hid (Below.refl _ _)⟩
          case round =>
            obtain ⟨i, hi, rfl, hok2, hbr2⟩ := hrel
            by_cases hlt2 : i < m
            · have hil : i < hl.length := by rw [HM5.out]; exact hlt2
              obtain ⟨g5, o5, c5', hA, hg5, x0, x1, x2, x3⟩ := (HV.out.below hbr2.out).at_ hil
              rw [HM5.out] at hA
              simp only [Value.slice.injEq, true_and] at hA
              obtain ⟨rfl, rfl⟩ := hA
              have hpf := HFT.out _ (List.getElem_mem hil)
              have hmem2 : hl[i] ∈ hl := List.getElem_mem hil
              have hST2 : Hid (hopOk (wtF F) lb (r, (l1, l2)) hl[i] = true → ∀ z ∈ hl.take (i + 1), hopOk (wtF F) lb (r, (l1, l2)) z = true) := fun h z hz => by
                rw [List.take_add_one, List.getElem?_eq_getElem hil, List.mem_append] at hz
                rcases hz with hz | hz
                · exact hok2.out z hz
                · have : z = hl[i] := by simpa using hz
                  rw [this]; exact h
              have hB2 : Hid (hopOk (wtF F) lb (r, (l1, l2)) hl[i] = false → ckWay (hopsL L) (wtF F) s t ⟨hs, yn, lb⟩ = 9) := fun h => by
                refine hBAD.out ?_
                rw [HLO.out, ← Bool.not_eq_true, List.all_eq_true]
                intro h2
                rw [h2 _ hmem2] at h
                cases h
              obtain ⟨p, hp⟩ : ∃ z, hl[i] = z := ⟨_, rfl⟩
              rw [hp] at x0 x1 x2 x3 hpf hST2 hB2
              obtain ⟨w6, hw6⟩ : ∃ W, wr.alloc (.cells #[.string (sb p.aw), .string (sb p.dst), .int .i64 p.lo, .int .i64 p.hi] 48) = W := ⟨_, rfl⟩
              have HW6 := Lib.hid hw6
              have B56 : Hid (Below w5.heap.size w5 w6) := by rw [← hw6]; exact hbr2.out.alloc hbr2.out.size _
              have B36 := Lib.hid (Below.then_ B5.out B56.out)
              have BW6 := Lib.hid (Below.then_ B3.out B36.out)
              have N6 : Hid (w6.cell? ⟨wr.heap.size, 1, none⟩ = some (.string (sb p.dst)) ∧ wr.heap.size < w6.heap.size) := by rw [← hw6]; unfold Hid; simp [go_sem]
              have y5c := (Y5.out.below hbr2.out).c0
              have y5lt := (Y5.out.below hbr2.out).lt
              clear hp hil hmem2 hw6 hok2 hg5
              go_wp2_with fail
              rw [HW6.out]
              clear HW6 x0 x1 x2 x3
              refine (rlength_any fv F (sb r) (sb p.dst) _ (HF3.out.below B36.out) HZ.out (by omega)).mono ?_
              rintro e w7 ⟨rfl, hb7⟩
              rw [bl_sb, bl_sb]
              have B67 := Lib.hid hb7
              have B37 := Lib.hid (Below.then_ B36.out hb7)
              have BW7 := Lib.hid (Below.then_ B3.out B37.out)
              have n7 := (hb7.cell (p := ⟨wr.heap.size, 1, none⟩) N6.out.2).trans N6.out.1
              have hdb := wtF_bd F r p.dst
              obtain ⟨dd, hdd⟩ : ∃ d, wtF F r p.dst = d := ⟨_, rfl⟩
              rw [hdd] at hdb ⊢
              have HDD := Lib.hid hdd
              have HHFB := Lib.hid hfb
              clear hb7 hdd y5c y5lt
              go_wp2_with fail
              refine (place_any _ (refsOf lb) (sb p.dst) _ (HR3.out.below B37.out)).mono ?_
              rintro e w7' ⟨bp, rfl, hbp, rfl⟩
              rw [bl_sb] at hbp ⊢
              have Y7 := Lib.hid (Y5.out.below (Below.then_ B56.out B67.out))
              have B57 := Lib.hid (Below.then_ B56.out B67.out)
              by_cases hin : (refsOf lb)[plc p.dst (refsOf lb)]? = some p.dst
              case neg =>
                have hbf : bp = false := by rw [hbp.out]; exact decide_eq_false hin
                subst hbf
                have HR : Hid (ckWay (hopsL L) (wtF F) s t ⟨hs, yn, lb⟩ = 9) := hB2.out (by unfold hopOk; rw [lk_no HASC.out hin])
                clear hin hbp
                go_wp2_with fail
                go_quiet (fail)
                go_wp2
                go_ret
                exact HP.out 9 _ HR.out (below_drewN' BW7.out _)
              have hbf : bp = true := by rw [hbp.out]; exact decide_eq_true hin
              subst hbf
              obtain ⟨hkp, hkp1, hlk⟩ := lk_plc HASC.out hin
              obtain ⟨g7, o7, cl7, hA, hg7, z0, z1, z2⟩ := LbsR.at2 (HL3.out.below2 B37.out) hkp
              rw [HLE.out] at hA
              simp only [Value.slice.injEq, true_and, Option.some.injEq, Addr.mk.injEq, and_true] at hA
              obtain ⟨⟨rfl, rfl⟩, rfl⟩ := hA
              have hkp2 : plc p.dst (refsOf lb) < k := by rw [← HLE.out]; exact hkp
              have HOK : Hid (hopOk (wtF F) lb (r, (l1, l2)) p = decide (lb[plc p.dst (refsOf lb)].2.1 ≤ satA l1 dd)) := by unfold Hid hopOk; rw [hlk, HDD.out]
              obtain ⟨n1, hn1⟩ : ∃ z, lb[plc p.dst (refsOf lb)].2.1 = z := ⟨_, rfl⟩
              rw [hn1] at z1 HOK
              obtain ⟨kv, hkv⟩ : ∃ z, plc p.dst (refsOf lb) = z := ⟨_, rfl⟩
              rw [hkv] at z1 hkp2 ⊢
              have HG7 := Lib.hid hg7
              have HM7 : Hid (w7.cell? ⟨w.heap.size, 2, none⟩ = some (.slice (some ⟨gl, ol, none⟩) k cl)) := (B37.out.cell (p := ⟨w.heap.size, 2, none⟩) hlt3).trans m2
              have hlt7 : Hid (w.heap.size < w7.heap.size) := Nat.lt_of_lt_of_le hlt3 B37.out.size
              have ad2 := fun q : BelBy w7 => radd_any l1 dd q.x hfb (by omega)
              obtain ⟨sv, hsv⟩ : ∃ x, satA l1 dd = x := ⟨_, rfl⟩
              rw [hsv] at HOK
              simp only [hsv] at ad2
              have a0 := fun q : BelBy w7 => (q.h.cell (p := ⟨w.heap.size, 2, none⟩) hlt7.out).trans HM7.out
              have a1 := fun q : BelBy w7 => (Y7.out.below q.h).c1
              have HZ1 := Lib.hid z1
              have a2 := fun q : BelBy w7 => (q.h.cell (p := ⟨gl, ol + kv * 3 + 1, none⟩) HG7.out).trans HZ1.out
              have f1 : (kv : Int) < (k : Int) := by omega
              have f2 : (0 : Int) ≤ (kv : Int) := by omega
              clear hsv hdb hfb hkp1 hkp hin hlk hbp hn1 hkv z0 z1 z2 hg7
              by_cases hgt : sv < n1
              · have g1 : decide (sv < n1) = true := decide_eq_true hgt
                have HR : Hid (ckWay (hopsL L) (wtF F) s t ⟨hs, yn, lb⟩ = 9) := hB2.out (by rw [HOK.out]; exact decide_eq_false (by omega))
                clear hgt
                go_wp2_with fail
                refine wp_region_quiet_bel (by assumption) (by kernel_rfl) ?_
                repeat (quiet_step (first | (go_at_call 29; exact Calls.bel_of (ad2 _))))
                refine wpQuiet_nil ?_
                rintro wz ⟨pw, hwz⟩
                have BZ : Hid (Below w.heap.size w wz) := by rw [hwz]; exact Below.then_ BW7.out pw.h
                clear hwz pw a0 a1 a2 ad2
                go_wp2
                go_ret
                exact HP.out 9 _ HR.out BZ.out
              · have g1 : decide (sv < n1) = false := decide_eq_false hgt
                have HR := Lib.hid (hST2.out (by rw [HOK.out]; exact decide_eq_true (by omega)))
                clear hgt
                go_wp2_with fail
                refine wp_region_quiet_bel (by assumption) (by kernel_rfl) ?_
                repeat (quiet_step (first | (go_at_call 29; exact Calls.bel_of (ad2 _))))
                refine wpQuiet_nil ?_
                rintro wz ⟨pw, hwz⟩
                have BZ : Hid (Below w5.heap.size w5 wz) := by rw [hwz]; exact Below.then_ B57.out pw.h
                clear hwz pw a0 a1 a2 ad2
                go_wp2
                go_roundw
                case rel => exact ⟨i + 1, hlt2, by go_num, HR, BZ⟩
                case measure => simp [intOf]; omega
            · have him : m = i := by omega
              subst him
              have HS := Lib.hid (hST.out (by
                rw [HLO.out, List.all_eq_true]
                have h1 := hok2.out
                rw [List.take_of_length_le (by rw [HM5.out]; exact Nat.le_refl _)] at h1
                exact h1))
              have BN := Lib.hid (Below.then_ B5.out hbr2.out)
              clear hok2 hbr2
              go_wp2
              go_roundw
              case rel => exact ⟨j + 1, hlt, by go_num, HS, BN⟩
              case measure => simp [intOf]; omega
        · have hjk : j = k := by omega
          subst hjk
          have HALL : Hid (lb.all (labOk (hopsL L) (wtF F) lb) = true) := by
            unfold Hid
            rw [List.all_eq_true]
            have h1 := hok.out
            rw [List.take_of_length_le (by rw [HLE.out]; exact Nat.le_refl _)] at h1
            exact h1
          have hck3 : Hid (ckWay (hopsL L) (wtF F) s t ⟨hs, yn, lb⟩ = if walkOk (hopsL L) s hs = false then 6 else if endW s hs ≠ t then 6 else if yn ≠ sumW (wtF F) s hs then 1 else if lkL lb t ≠ some yn then 11 else 0) := by
            unfold Hid; rw [hck2.out, if_neg (by rw [HALL.out]; simp)]
          obtain ⟨w4, rfl⟩ : ∃ w4, w4 = wr := ⟨_, rfl⟩
          have B34 := Lib.hid hbr.out
          have B4 := Lib.hid (Below.then_ B3.out hbr.out)
          have e0 := (hbr.out.cell (p := ⟨w.heap.size, 0, none⟩) hlt3).trans k0
          have e1 := (hbr.out.cell (p := ⟨w.heap.size, 1, none⟩) hlt3).trans k1
          have e2 := (hbr.out.cell (p := ⟨w.heap.size, 2, none⟩) hlt3).trans k2
          have klt : w.heap.size < w4.heap.size := Nat.lt_of_lt_of_le hlt3 hbr.out.size
          clear hok hbr hck2 k0 k1 k2 m2
          go_wp2_with fail
          have HF4 := Lib.hid (HF.out.below B4.out)
          have HR4 := Lib.hid (HR3.out.below B34.out)
          have HL4 := Lib.hid (HL3.out.below2 B34.out)
          go_loopw [25, 26, 144] (fun av sv iv wr => ∃ (i : Nat) (x : Rf) (sm : Int), i ≤ hn ∧ iv = .int .i64 i ∧ av = .string (sb x) ∧ sv = .int .i64 sm ∧ Hid (walkOk (hopsL L) s (hs.take i) = true ∧ endW s (hs.take i) = x ∧ sumW (wtF F) s (hs.take i) = sm) ∧ 0 ≤ sm ∧ sm ≤ i * 64800000 ∧ x.length ≤ maxLen ∧ Hid (Below w4.heap.size w4 wr)) (fun _ _ iv _ => hn - (intOf iv).toNat)
          case atStart => exact ⟨0, s, 0, Nat.zero_le _, by first | rfl | go_num, rfl, rfl, Lib.hid ⟨rfl, rfl, rfl⟩, by omega, by omega, hsl, Lib.hid (Below.refl _ _)⟩
          case round =>
            obtain ⟨i, x, sm, hi, rfl, rfl, rfl, hwk, hlo, hhi, hxl, hbr⟩ := hrel
            by_cases hlt : i < hn
            · have hil : i < hs.length := by rw [HHE.out]; exact hlt
              have BWr := Lib.hid (Below.then_ B4.out hbr.out)
              obtain ⟨g5, o5, c5', hA, hg5, x0, x1, x2, x3⟩ := (HH.out.below BWr.out).at_ hil
              rw [HHE.out] at hA
              simp only [Value.slice.injEq, true_and] at hA
              obtain ⟨rfl, rfl⟩ := hA
              have hTK : Hid (hs.take (i + 1) = hs.take i ++ [hs[i]]) := by unfold Hid; rw [List.take_add_one, List.getElem?_eq_getElem hil]; rfl
              obtain ⟨p, hp⟩ : ∃ z, hs[i] = z := ⟨_, rfl⟩
              rw [hp] at x0 x1 x2 x3 hTK
              obtain ⟨w6, hw6⟩ : ∃ W, wr.alloc (.cells #[.string (sb p.aw), .string (sb p.dst), .int .i64 p.lo, .int .i64 p.hi] 48) = W := ⟨_, rfl⟩
              have HW6 := Lib.hid hw6
              have B46 : Hid (Below w4.heap.size w4 w6) := by rw [← hw6]; exact hbr.out.alloc hbr.out.size _
              have N6 : Hid (w6.cell? ⟨wr.heap.size, 0, none⟩ = some (.string (sb p.aw)) ∧ w6.cell? ⟨wr.heap.size, 1, none⟩ = some (.string (sb p.dst)) ∧ w6.cell? ⟨wr.heap.size, 2, none⟩ = some (.int .i64 p.lo) ∧ w6.cell? ⟨wr.heap.size, 3, none⟩ = some (.int .i64 p.hi) ∧ wr.heap.size < w6.heap.size) := by rw [← hw6]; unfold Hid; simp [go_sem]
              have BW6 := Lib.hid (Below.then_ B4.out B46.out)
              have hw0 := wtF_bd F x p.dst
              have hhl := hopsL_len L x
              clear hp hil hw6 hg5
              go_wp2_with fail
              rw [HW6.out]
              clear HW6 x0 x1 x2 x3
              refine (hops_rindex_any v L (sb x) _ (H.out.below BW6.out) hlL).mono ?_
              rintro e w7 ⟨vh, rfl, hvh, hb7⟩
              rw [bl_sb] at hvh
              have B47 := Lib.hid (Below.then_ B46.out hb7)
              have B67 := Lib.hid hb7
              obtain ⟨hl, hhe⟩ : ∃ l, hopsL L x = l := ⟨_, rfl⟩
              have HHX := Lib.hid hhe
              rw [hhe] at hvh hhl
              obtain ⟨A5, c5, rfl, hc51, hc52⟩ := hvh.form
              unfold maxLen at hc52
              obtain ⟨m, hm⟩ : ∃ k, hl.length = k := ⟨_, rfl⟩
              have HM7 := Lib.hid hm
              have HV := Lib.hid hvh
              rw [hm] at hc51 hhl HV ⊢
              have N7 : Hid (w7.cell? ⟨wr.heap.size, 0, none⟩ = some (.string (sb p.aw)) ∧ w7.cell? ⟨wr.heap.size, 1, none⟩ = some (.string (sb p.dst)) ∧ w7.cell? ⟨wr.heap.size, 2, none⟩ = some (.int .i64 p.lo) ∧ w7.cell? ⟨wr.heap.size, 3, none⟩ = some (.int .i64 p.hi) ∧ wr.heap.size < w7.heap.size) := by
                obtain ⟨n0, n1, n2, n3, nlt⟩ := N6.out
                exact ⟨(hb7.cell (p := ⟨wr.heap.size, 0, none⟩) nlt).trans n0, (hb7.cell (p := ⟨wr.heap.size, 1, none⟩) nlt).trans n1, (hb7.cell (p := ⟨wr.heap.size, 2, none⟩) nlt).trans n2, (hb7.cell (p := ⟨wr.heap.size, 3, none⟩) nlt).trans n3, Nat.lt_of_lt_of_le nlt hb7.size⟩
              obtain ⟨bx, hbx⟩ : ∃ n, wr.heap.size = n := ⟨_, rfl⟩
              rw [hbx] at N7 ⊢
              clear hvh hhe hm hb7 N6 hbx
              go_wp2_with fail
              go_loopw [29, 152] (fun ov jv wr => ∃ j2 : Nat, j2 ≤ m ∧ jv = .int .i64 j2 ∧ ov = .bool (decide (p ∈ hl.take j2)) ∧ Hid (Below w7.heap.size w7 wr)) (fun _ jv _ => m - (intOf jv).toNat)
              case atStart => exact ⟨0, Nat.zero_le _, by first | rfl | go_num, by simp, Lib.hid (Below.refl _ _)⟩
              case round =>
                obtain ⟨j2, hj2, rfl, rfl, hbr2⟩ := hrel
                by_cases hlt2 : j2 < m
                · have hjl : j2 < hl.length := by rw [HM7.out]; exact hlt2
                  obtain ⟨g6, o6, c6', hA, hg6, x0, x1, x2, x3⟩ := (HV.out.below hbr2.out).at_ hjl
                  rw [HM7.out] at hA
                  simp only [Value.slice.injEq, true_and] at hA
                  obtain ⟨rfl, rfl⟩ := hA
                  have hTJ : Hid (decide (p ∈ hl.take (j2 + 1)) = (decide (p ∈ hl.take j2) || decide (p = hl[j2]))) := by
                    unfold Hid
                    rw [List.take_add_one, List.getElem?_eq_getElem hjl, Bool.eq_iff_iff, Bool.or_eq_true, decide_eq_true_iff, decide_eq_true_iff, decide_eq_true_iff, List.mem_append]
                    simp
                  obtain ⟨q, hq⟩ : ∃ z, hl[j2] = z := ⟨_, rfl⟩
                  rw [hq] at x0 x1 x2 x3 hTJ
                  obtain ⟨n0, n1, n2, n3, nlt⟩ := N7.out
                  have m0 := (hbr2.out.cell (p := ⟨bx, 0, none⟩) nlt).trans n0
                  have m1 := (hbr2.out.cell (p := ⟨bx, 1, none⟩) nlt).trans n1
                  have m2 := (hbr2.out.cell (p := ⟨bx, 2, none⟩) nlt).trans n2
                  have m3 := (hbr2.out.cell (p := ⟨bx, 3, none⟩) nlt).trans n3
                  have mlt : bx < wr.heap.size := Nat.lt_of_lt_of_le nlt hbr2.out.size
                  have heq : ∀ W, (binOp .eql 48 (.agg #[.string (sb q.aw), .string (sb q.dst), .int .i64 q.lo, .int .i64 q.hi]) (.agg #[.string (sb p.aw), .string (sb p.dst), .int .i64 p.lo, .int .i64 p.hi])).run Tryz.prog W = .ok (.bool (decide (p = q))) W := fun W => by
                    rw [← eqB_iff]; exact eqHp.1 q p W
                  obtain ⟨w9, hw9⟩ : ∃ W, wr.alloc (.cells #[.string (sb q.aw), .string (sb q.dst), .int .i64 q.lo, .int .i64 q.hi] 48) = W := ⟨_, rfl⟩
                  have HW9 := Lib.hid hw9
                  have BN : Hid (Below w7.heap.size w7 w9) := by rw [← hw9]; exact hbr2.out.alloc hbr2.out.size _
                  clear hq hjl hg6 n0 n1 n2 n3 nlt hw9
                  obtain ⟨bo, hbo⟩ : ∃ b, decide (p ∈ hl.take j2) = b := ⟨_, rfl⟩
                  rw [hbo] at hTJ ⊢
                  clear hbo
                  cases bo
                  all_goals
                    go_wp2_with fail
                    go_roundw
                    case rel => exact ⟨j2 + 1, hlt2, by go_num, by rw [hTJ.out]; rfl, by rw [HW9.out]; exact BN⟩
                    case measure => simp [intOf]; omega
                · have hjm : j2 = m := by omega
                  subst hjm
                  have HT : hl.take j2 = hl := List.take_of_length_le (by rw [HM7.out]; exact Nat.le_refl _)
                  rw [HT]
                  obtain ⟨n0, n1, n2, n3, nlt⟩ := N7.out
                  have m1 := (hbr2.out.cell (p := ⟨bx, 1, none⟩) nlt).trans n1
                  have mlt : bx < wr.heap.size := Nat.lt_of_lt_of_le nlt hbr2.out.size
                  have B4r := Lib.hid (Below.then_ B47.out hbr2.out)
                  have BWE := Lib.hid (Below.then_ B4.out B4r.out)
                  clear HT n0 n1 n2 n3 nlt
                  by_cases hin : p ∈ hl
                  case neg =>
                    rw [decide_eq_false hin]
                    have HR : Hid (ckWay (hopsL L) (wtF F) s t ⟨hs, yn, lb⟩ = 6) := by
                      unfold Hid
                      rw [hck3.out, if_pos]
                      obtain ⟨h1, h2, h3⟩ := hwk.out
                      rw [← List.take_append_drop (i + 1) hs, hTK.out]
                      exact walk_bad (hs.take i) (hs.drop (i + 1)) p (by rw [h2, HHX.out]; exact hin)
                    clear hin
                    go_wp2
                    go_ret
                    exact HP.out 6 _ HR.out BWE.out
                  rw [decide_eq_true hin]
                  have hpf : p.dst.length ≤ maxLen := chkL_fit HC.out p.dst (nxt_mem L x p.dst (List.mem_map.2 ⟨p, by rw [HHX.out]; exact hin, rfl⟩))
                  have HW : Hid (walkOk (hopsL L) s (hs.take (i + 1)) = true ∧ endW s (hs.take (i + 1)) = p.dst ∧ sumW (wtF F) s (hs.take (i + 1)) = sm + wtF F x p.dst) := by
                    unfold Hid
                    obtain ⟨h1, h2, h3⟩ := hwk.out
                    obtain ⟨k1, k2, k3⟩ := walk_snoc (hp := hopsL L) (wt := wtF F) s (hs.take i) p
                    rw [hTK.out, k1, k2, k3, h1, h2, h3, HHX.out]
                    exact ⟨by simp [hin], rfl, rfl⟩
                  obtain ⟨dd, hdd⟩ : ∃ z, wtF F x p.dst = z := ⟨_, rfl⟩
                  rw [hdd] at hw0 HW
                  have HDD := Lib.hid hdd
                  have hsa : satA sm dd = sm + dd := satA_in (by omega)
                  have hs2 : 0 ≤ sm + dd := by omega
                  have hs3 : sm + dd ≤ ((i + 1 : Nat) : Int) * 64800000 := by omega
                  have ad1 := fun W => radd_any sm dd W (by omega) (by omega)
                  obtain ⟨sm2, hsm2⟩ : ∃ z, sm + dd = z := ⟨_, rfl⟩
                  rw [hsm2] at hsa hs2 hs3 HW
                  simp only [hsa] at ad1
                  have HS23 : Hid (0 ≤ sm2 ∧ sm2 ≤ ((i + 1 : Nat) : Int) * 64800000) := ⟨hs2, hs3⟩
                  have hi1 : i + 1 ≤ hn := hlt
                  clear hin hwk hTK hw0 hdd hsm2 hs2 hs3 hsa hlo hhi
                  go_wp2_with fail
                  refine (rlength_any fv F (sb x) (sb p.dst) _ (HF4.out.below B4r.out) HZ.out (by omega)).mono ?_
                  rintro e w8 ⟨rfl, hb8⟩
                  rw [bl_sb, bl_sb, HDD.out]
                  have B48 := Lib.hid (Below.then_ B4r.out hb8)
                  have HM8 : Hid (w8.cell? ⟨bx, 1, none⟩ = some (.string (sb p.dst)) ∧ bx < w8.heap.size) := ⟨(hb8.cell (p := ⟨bx, 1, none⟩) mlt).trans m1, Nat.lt_of_lt_of_le mlt hb8.size⟩
                  have a0 := fun q : BelBy w8 => (q.h.cell (p := ⟨bx, 1, none⟩) HM8.out.2).trans HM8.out.1
                  have ad2 := fun q : BelBy w8 => ad1 q.x
                  clear hb8 m1 mlt ad1
                  go_wp2_with fail
                  refine wp_region_quiet_bel (by assumption) (by kernel_rfl) ?_
                  repeat (quiet_step (first | (go_at_call 29; exact Calls.bel_of (ad2 _))))
                  refine wpQuiet_nil ?_
                  rintro wz ⟨pw, hwz⟩
                  have BZ : Hid (Below w4.heap.size w4 wz) := by rw [hwz]; exact Below.then_ B48.out pw.h
                  clear hwz pw a0 ad2
                  go_wp2
                  go_roundw
                  case rel => exact ⟨i + 1, p.dst, sm2, hi1, by go_num, rfl, rfl, HW, HS23.out.1, HS23.out.2, hpf, BZ⟩
                  case measure => simp [intOf]; omega
            · have hin : i = hn := by omega
              subst hin
              have HT : hs.take i = hs := List.take_of_length_le (by rw [HHE.out]; exact Nat.le_refl _)
              rw [HT] at hwk
              have hck4 : Hid (ckWay (hopsL L) (wtF F) s t ⟨hs, yn, lb⟩ = if x ≠ t then 6 else if yn ≠ sm then 1 else if lkL lb t ≠ some yn then 11 else 0) := by
                obtain ⟨q1, q2, q3⟩ := hwk.out
                unfold Hid; rw [hck3.out, q1, q2, q3, if_neg (by simp)]
              have BE := Lib.hid (Below.then_ B4.out hbr.out)
              have m1 := (hbr.out.cell (p := ⟨w.heap.size, 1, none⟩) klt).trans e1
              have m2 := (hbr.out.cell (p := ⟨w.heap.size, 2, none⟩) klt).trans e2
              have HRr := Lib.hid (HR4.out.below hbr.out)
              have HLr := Lib.hid (HL4.out.below2 hbr.out)
              clear HT hwk hck3 hbr e0 e1 e2
              by_cases hxt : x = t
              case neg =>
                have f1 : ((sb x).toList == (sb t).toList) = false := by rw [str_eq, bl_sb, bl_sb]; exact decide_eq_false hxt
                have HR : Hid (ckWay (hopsL L) (wtF F) s t ⟨hs, yn, lb⟩ = 6) := by unfold Hid; rw [hck4.out, if_pos hxt]
                clear hxt
                go_wp2
                go_ret
                exact HP.out 6 _ HR.out BE.out
              subst hxt
              by_cases hys : yn = sm
              case neg =>
                have f1 : (yn == sm) = false := beq_eq_false_iff_ne.2 hys
                have f2 : (yn != sm) = true := bne_iff_ne.2 hys
                have HR : Hid (ckWay (hopsL L) (wtF F) s x ⟨hs, yn, lb⟩ = 1) := by unfold Hid; rw [hck4.out, if_neg (by simp), if_pos hys]
                clear hys
                go_wp2
                go_ret
                exact HP.out 1 _ HR.out BE.out
              subst hys
              go_wp2_with fail
              refine (place_any _ (refsOf lb) (sb x) _ HRr.out).mono ?_
              rintro e wr' ⟨bp, rfl, hbp, rfl⟩
              rw [bl_sb] at hbp ⊢
              by_cases hin : (refsOf lb)[plc x (refsOf lb)]? = some x
              case neg =>
                have hbf : bp = false := by rw [hbp.out]; exact decide_eq_false hin
                subst hbf
                have HR : Hid (ckWay (hopsL L) (wtF F) s x ⟨hs, yn, lb⟩ = 11) := by unfold Hid; rw [hck4.out, if_neg (by simp), if_neg (by simp), if_pos (by rw [lk_no HASC.out hin]; simp)]
                clear hin hbp
                go_wp2
                go_ret
                exact HP.out 11 _ HR.out BE.out
              have hbf : bp = true := by rw [hbp.out]; exact decide_eq_true hin
              subst hbf
              obtain ⟨hkp, hkp1, hlk⟩ := lk_plc HASC.out hin
              obtain ⟨g7, o7, cl7, hA, hg7, z0, z1, z2⟩ := LbsR.at2 HLr.out hkp
              rw [HLE.out] at hA
              simp only [Value.slice.injEq, true_and, Option.some.injEq, Addr.mk.injEq, and_true] at hA
              obtain ⟨⟨rfl, rfl⟩, rfl⟩ := hA
              have hkp2 : plc x (refsOf lb) < j := by rw [← HLE.out]; exact hkp
              obtain ⟨n1, hn1⟩ : ∃ z, lb[plc x (refsOf lb)].2.1 = z := ⟨_, rfl⟩
              rw [hn1] at z1 hlk
              obtain ⟨kv, hkv⟩ : ∃ z, plc x (refsOf lb) = z := ⟨_, rfl⟩
              rw [hkv] at z1 hkp2 ⊢
              have f1 : (kv : Int) < (j : Int) := by omega
              have f2 : (0 : Int) ≤ (kv : Int) := by omega
              have HZ1 := Lib.hid z1
              clear hn1 hkv hkp1 hkp hin hbp z0 z1 z2 hg7
              have z1 := HZ1.out
              by_cases hny : n1 = yn
              case neg =>
                have g1 : (n1 == yn) = false := beq_eq_false_iff_ne.2 hny
                have g2 : (n1 != yn) = true := bne_iff_ne.2 hny
                have HR : Hid (ckWay (hopsL L) (wtF F) s x ⟨hs, yn, lb⟩ = 11) := by unfold Hid; rw [hck4.out, if_neg (by simp), if_neg (by simp), if_pos (by rw [hlk]; simpa using hny)]
                clear hlk hny
                go_wp2
                go_ret
                exact HP.out 11 _ HR.out BE.out
              subst hny
              have HR : Hid (ckWay (hopsL L) (wtF F) s x ⟨hs, n1, lb⟩ = 0) := by unfold Hid; rw [hck4.out, if_neg (by simp), if_neg (by simp), if_neg (by rw [hlk]; simp)]
              clear hlk
              go_wp2
              go_ret
              exact HP.out 0 _ HR.out BE.out
end Go.Proofs.YtgnnblkpjankgaaGreatDoor
