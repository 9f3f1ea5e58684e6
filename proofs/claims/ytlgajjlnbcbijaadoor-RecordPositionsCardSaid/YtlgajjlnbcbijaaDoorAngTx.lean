/-
  Contracts: texts of angles (the program): digits, split, signed, LatText, LonText, PosText.
-/
import Derived.Test.YtlgajjlnbcbijaaDoorAngTxL
namespace Go.Proofs.YtlgajjlnbcbijaaDoor
open Go.RowKit
set_option linter.unusedVariables false
set_option linter.unusedSimpArgs false

theorem infoU8 : (Tryd.prog.info? 5).map (fun i => (i.zero, i.size, i.bytes)) = some (some (.int .u8 0), 1, 1) := by kernel_rfl
/-- a row of bytes, of blocks from base on -/
def ByR (w : World) (base : Nat) (v : Value) (l : List UInt8) : Prop := w.ownsRow base 5 1 v l.length (Lib.byteCells l)
def ByPost (base : Nat) (l : List UInt8) (w : World) (e : Ending) (w' : World) : Prop := ∃ v', e = .returned v' ∧ ByR w' base v' l ∧ Below base w w'
theorem own_mk {w : World} {base n : Nat} {v : Value} {l : List UInt8} (h : w.ownsRow base 5 1 v n (Lib.byteCells l)) : ByR w base v l := by
  have : n = l.length := by
    have := h.1
    unfold Lib.byteCells at this
    rw [List.length_map] at this
    omega
  subst this
  exact h
/-- one zero is appended -/
theorem dig_step {base : Nat} {w0 wr w' : World} {v v' : Value} {l : List UInt8} {o : Obj} {n : Nat}
    (hlt : ∀ k, v.ownBlock = some k → base ≤ k ∧ k < wr.heap.size) (hb : Below base w0 wr) (hown' : w'.ownsRow base 5 1 v' (n + 1) (Lib.byteCells l ++ [.int .u8 48])) (hg : (wr.alloc o).grownBy w' v.ownBlock) (hB : base ≤ wr.heap.size) :
    ByR w' base v' (l ++ [48]) ∧ Below base w0 w' := by
  refine ⟨own_mk (n := n + 1) (by rw [byteCells_app]; exact hown'), (hb.alloc hB o).grown hg (by simp; omega) (fun k hk => (hlt k hk).1)⟩
theorem rep_snoc (l : List UInt8) (k : Nat) : (l ++ List.replicate k 48) ++ [48] = l ++ List.replicate (k + 1) (48 : UInt8) := by
  rw [List.append_assoc, ← List.replicate_succ']
theorem ByR.slice {w : World} {base : Nat} {v : Value} {l : List UInt8} (h : ByR w base v l) (hl : l ≠ []) : ∃ g c, v = .slice (some ⟨g, 0, none⟩) l.length c ∧ base ≤ g ∧ g < w.heap.size ∧ l.length ≤ c ∧ c ≤ maxLen := by
  have hlt := h.lt
  obtain ⟨_, ⟨rfl, h0⟩ | ⟨g, cap, cur, rfl, hb, hh, hn, hm, _⟩⟩ := h
  · exact absurd (List.eq_nil_of_length_eq_zero h0) hl
  · exact ⟨g, cap, rfl, hb, (hlt g rfl).2, hn, hm⟩
theorem ByR.len {w : World} {base : Nat} {v : Value} {l : List UInt8} (h : ByR w base v l) : ∃ A c, v = .slice A l.length c ∧ l.length ≤ c ∧ c ≤ maxLen := by
  obtain ⟨_, ⟨rfl, h0⟩ | ⟨g, cap, cur, rfl, hb, hh, hn, hm, _⟩⟩ := h
  · rw [h0]; exact ⟨_, _, rfl, Nat.le_refl _, by unfold maxLen; omega⟩
  · exact ⟨_, _, rfl, hn, hm⟩
/-- one digit is stored -/
theorem put_step {base : Nat} {w0 w : World} {g cap N c j m L : Nat} {l : List UInt8} (hL : l.length = L) (hj : j < c) (hm : c - j = m + 1)
    (h : ByR w base (.slice (some ⟨g, 0, none⟩) (L + c) cap) (digMid l N c j)) (hb : Below base w0 w) (hg : base ≤ g) :
    (∃ x, w.cell? ⟨g, L + m, none⟩ = some (.int .u8 x)) ∧ w.frozen? ⟨g, L + m, none⟩ = false ∧
    ByR (w.setCell ⟨g, L + m, none⟩ (.int .u8 (48 + ((N / 10 ^ j : Nat) : Int) % 10))) base (.slice (some ⟨g, 0, none⟩) (L + c) cap) (digMid l N c (j + 1)) ∧
      Below base w0 (w.setCell ⟨g, L + m, none⟩ (.int .u8 (48 + ((N / 10 ^ j : Nat) : Int) % 10))) := by
  subst hL
  have h' : w.ownsRow base 5 1 (.slice (some ⟨g, 0, none⟩) (l.length + c) cap) (l.length + c) (Lib.byteCells (digMid l N c j)) := by
    have := h
    unfold ByR at this
    rw [digMid_len l N c j (by omega)] at this
    exact this
  have hs := (h'.stored (l.length + m) (.int .u8 (48 + ((N / 10 ^ j : Nat) : Int) % 10))).1
  rw [digMid_set l N c j m hm] at hs
  have hlt : l.length + m < (digMid l N c j).length := by rw [digMid_len l N c j (by omega)]; omega
  refine ⟨⟨((digMid l N c j)[l.length + m]'hlt).toNat, ?_⟩, h'.frozenAt _, own_mk hs, hb.setCell (p := ⟨g, l.length + m, none⟩) hg _⟩
  rw [h'.cellAt (l.length + m) (by omega)]
  unfold Lib.byteCells
  rw [List.getElem?_map, List.getElem?_eq_getElem hlt]; rfl
set_option maxRecDepth 100000 in
set_option maxHeartbeats 2000000 in
theorem digits_row (v : Value) (l : List UInt8) (N c base : Nat) (w : World) (hc : c ≤ 4) (hc0 : 0 < c) (hl : l.length ≤ 40) (hN : N < 1000000000000) (hown : ByR w base v l) (hB : base ≤ w.heap.size) :
    Calls Tryd.prog 50 #[v, .int .i64 (N : Int), .int .i64 (c : Int)] w (ByPost base (l ++ fixD N c) w) := by
  obtain ⟨i0, hi, hz0, hz1, hz2⟩ := info_parts infoU8
  obtain ⟨A, cp, rfl, hcp, hcm⟩ := hown.len
  unfold maxLen at hcm
  obtain ⟨L, hL⟩ : ∃ L, l.length = L := ⟨_, rfl⟩
  have HL := Lib.hid hL
  have H0 : Hid (ByR w base (.slice A l.length cp) l) := hown
  rw [hL] at hcp hl ⊢
  clear hown hL
  have hci : (c : Int) ≤ 4 := by omega
  go_enter Tryd.func50, Tryd.ntmps50
  go_wp2
  go_loopw [0, 12] (fun b i wr => ∃ k : Nat, k ≤ c ∧ i = .int .i64 k ∧ Hid (ByR wr base b (l ++ List.replicate k 48)) ∧ Below base w wr) (fun _ i _ => c - (intOf i).toNat)
  case atStart => exact ⟨0, Nat.zero_le _, rfl, by unfold Hid; rw [List.replicate_zero, List.append_nil, ← HL.out]; exact H0.out, Below.refl _ _⟩
  case round =>
    obtain ⟨k, hk, rfl, hby, hbr⟩ := hrel
    have hBr : base ≤ wr.heap.size := Nat.le_trans hB hbr.size
    have hlen : (l ++ List.replicate k (48 : UInt8)).length = L + k := by rw [List.length_append, List.length_replicate, HL.out]
    by_cases hlt : k < c
    · have hown : wr.ownsRow base 5 1 u0 (L + k) (Lib.byteCells (l ++ List.replicate k 48)) := by
        have := hby.out
        unfold ByR at this
        rwa [hlen] at this
      have hlo := hown.lt
      clear hlen hby
      go_wp2_with (at_builtin; refine wpList_append_own _ rfl _ _ 77 rfl base 5 i0 (.int .u8 0) 1 1 Tryd.underlying77 hi hz0 hz1 hz2 rfl (by decide) _ _ _ rfl (hown.alloc _) ⟨wr.heap.size, 0, none⟩ 1 1 [.int .u8 48] rfl rfl ?c1 ?c2 ?c3 ?c4 ?c5 ?_)
      case c1 => intro j u hu; cases j with
        | zero => simp only [List.getElem?_cons_zero, Option.some.injEq] at hu; subst hu; simp [go_sem]
        | succ j => simp at hu
      case c2 => intro u hu; simp at hu; subst hu; rfl
      case c3 => unfold maxLen; omega
      case c4 => omega
      case c5 => simp; omega
      intro v' w' hown' hgrow _
      have R := dig_step hlo hbr hown' hgrow hBr
      rw [rep_snoc] at R
      have R1 := Lib.hid R.1
      have R2 := R.2
      clear R hown hown' hgrow hlo
      go_wp2
      go_roundw
      case rel => exact ⟨k + 1, hlt, by go_num, R1.out, R2⟩
      case measure => simp [intOf]; omega
    · obtain rfl : k = c := by omega
      obtain ⟨g, cap, hv, hbg, hgs, hcap, hcm2⟩ := hby.out.slice (by rw [← List.length_pos_iff]; omega)
      rw [hlen] at hv hcap
      unfold maxLen at hcm2
      subst hv
      have HM : Hid (ByR wr base (.slice (some ⟨g, 0, none⟩) (l.length + k) cap) (digMid l N k 0)) := by
        unfold Hid; rw [digMid_zero, HL.out]; exact hby.out
      clear hlen hby
      go_wp2_with fail
      obtain ⟨wo, rfl⟩ : ∃ wo : World, wo = wr := ⟨_, rfl⟩
      go_loopw [1, 8] (fun q i wr => ∃ (j m : Nat) (x : Int) (y : Nat), j + m = k ∧ i = .int .i64 x ∧ x + 1 = (L : Int) + (m : Int) ∧ q = .int .i64 (y : Int) ∧ Hid (N / 10 ^ j = y) ∧ Hid (ByR wr base (.slice (some ⟨g, 0, none⟩) (L + k) cap) (digMid l N k j)) ∧ Below base w wr) (fun _ i _ => ((intOf i) + 1 - L).toNat)
      case atStart => exact ⟨0, k, (L : Int) + (k : Int) - 1, N, by omega, by first | rfl | go_num, by omega, rfl, by unfold Hid; simp, by have := HM.out; rw [HL.out] at this; exact this, hbr⟩
      case round =>
        obtain ⟨j, m, x, y, hjm, rfl, hx, rfl, hy, hby, hbr2⟩ := hrel
        have hyb : y < 1000000000000 := by rw [← hy.out]; exact Nat.lt_of_le_of_lt (Nat.div_le_self _ _) hN
        rcases Nat.eq_zero_or_pos m with hm | hm
        · have hjk : j = k := by omega
          subst hjk
          have hxL : x < (L : Int) := by omega
          clear hx hm hjm
          go_wp2
          go_ret
          refine ⟨_, rfl, ?_, hbr2⟩
          have := hby.out
          rw [digMid_full] at this
          exact this
        · obtain ⟨p, rfl⟩ : ∃ p, m = p + 1 := ⟨m - 1, by omega⟩
          obtain rfl : x = ((L + p : Nat) : Int) := by omega
          obtain ⟨⟨u, hcell⟩, hfz, P1, P2⟩ := put_step HL.out (show j < k by omega) (show k - j = p + 1 by omega) hby.out hbr2 hbg
          rw [hy.out] at P1 P2
          have HP1 := Lib.hid P1
          have HP2 := Lib.hid P2
          have HJ := Lib.hid hjm
          have hlo : (L : Int) ≤ ((L + p : Nat) : Int) := by omega
          have hhi : ((L + p : Nat) : Int) < ((L + k : Nat) : Int) := by omega
          have hyd : y / 10 = N / 10 ^ (j + 1) := by rw [Nat.pow_succ, ← Nat.div_div_eq_div_mul, hy.out]
          have HYD := Lib.hid hyd
          clear P1 P2 hby hx hm hjm hyd
          go_wp2
          go_roundw
          case rel => exact ⟨j + 1, p, _, y / 10, by have := HJ.out; omega, rfl, by omega, by go_num, HYD.out.symm, HP1.out, HP2.out⟩
          case measure => simp [intOf]; omega

theorem ByPost.next {base : Nat} {l : List UInt8} {w w1 : World} {e : Ending} {w2 : World} (h : ByPost base l w1 e w2) (hb : Below base w w1) : ByPost base l w e w2 := by
  obtain ⟨v, he, hr, hb2⟩ := h
  exact ⟨v, he, hr, hb.trans hb2⟩
set_option maxRecDepth 100000 in
set_option maxHeartbeats 1000000 in
theorem split_row (v : Value) (l : List UInt8) (N c base : Nat) (w : World) (hc : c ≤ 3) (hc0 : 0 < c) (hl : l.length ≤ 20) (hN : N < 1000000000) (hown : ByR w base v l) (hB : base ≤ w.heap.size) :
    Calls Tryd.prog 36 #[v, .int .i64 (N : Int), .int .i64 (c : Int)] w (ByPost base (l ++ sexa N c) w) := by
  have q1 := Lib.hid (show (N : Int) / 360000 = ((N / 360000 : Nat) : Int) by omega)
  have q2 := Lib.hid (show (N : Int) % 360000 / 6000 = ((N % 360000 / 6000 : Nat) : Int) by omega)
  have q3 := Lib.hid (show (N : Int) % 6000 / 100 = ((N % 6000 / 100 : Nat) : Int) by omega)
  have q4 := Lib.hid (show (N : Int) % 100 = ((N % 100 : Nat) : Int) by omega)
  have d1 : N / 360000 < 1000000000000 := by omega
  have d2 : N % 360000 / 6000 < 1000000000000 := by omega
  have d3 : N % 6000 / 100 < 1000000000000 := by omega
  have d4 : N % 100 < 1000000000000 := by omega
  have HO := Lib.hid hown
  clear hown
  go_enter Tryd.func36, Tryd.ntmps36
  go_wp2_with fail
  rw [q1.out]
  refine (digits_row _ l _ c base _ (by omega) hc0 (by omega) d1 HO.out hB).mono ?_
  rintro e w1 ⟨v1, rfl, hr1, hb1⟩
  have R1 := Lib.hid hr1
  clear hr1
  go_wp2_with fail
  rw [q2.out]
  refine (digits_row _ _ _ 2 base _ (by omega) (by omega) (by rw [List.length_append, fixD_len]; omega) d2 R1.out (Nat.le_trans hB hb1.size)).mono ?_
  rintro e w2 ⟨v2, rfl, hr2, hb2⟩
  have R2 := Lib.hid hr2
  have hb02 := hb1.trans hb2
  clear hr2 hb1 hb2 R1
  go_wp2_with fail
  rw [q3.out]
  refine (digits_row _ _ _ 2 base _ (by omega) (by omega) (by rw [List.length_append, List.length_append, fixD_len, fixD_len]; omega) d3 R2.out (Nat.le_trans hB hb02.size)).mono ?_
  rintro e w3 ⟨v3, rfl, hr3, hb3⟩
  have R3 := Lib.hid hr3
  have hb03 := hb02.trans hb3
  clear hr3 hb02 hb3 R2
  go_wp2_with fail
  rw [q4.out]
  refine (digits_row _ _ _ 2 base _ (by omega) (by omega) (by rw [List.length_append, List.length_append, List.length_append, fixD_len, fixD_len, fixD_len]; omega) d4 R3.out (Nat.le_trans hB hb03.size)).mono ?_
  rintro e w4 ⟨v4, rfl, hr4, hb4⟩
  have hb04 := hb03.trans hb4
  have R4 : Hid (ByR w4 base v4 (l ++ sexa N c)) := by
    unfold Hid sexa
    simpa only [List.append_assoc] using hr4
  clear hr4 hb03 hb4 R3
  go_wp2
  go_ret
  exact ⟨v4, rfl, R4.out, hb04⟩
set_option maxRecDepth 100000 in
set_option maxHeartbeats 1000000 in
theorem signed_any (a : Int) (p m : UInt8) (c : Nat) (w : World) (hc : c ≤ 3) (hc0 : 0 < c) (ha : a.natAbs < 1000000000) :
    Calls Tryd.prog 25 #[.int .i64 a, .int .u8 (p.toNat : Int), .int .u8 (m.toNat : Int), .int .i64 (c : Int)] w (StrPost (sgnText a p m c) w) := by
  by_cases h0 : a < 0
  · obtain ⟨N, hN⟩ : ∃ N : Nat, -a = (N : Int) := ⟨a.natAbs, by omega⟩
    have HT : Hid (sgnText a p m c = m :: sexa N c) := by unfold Hid sgnText; rw [if_pos h0, hN, Int.toNat_natCast]
    have HNb : N < 1000000000 := by omega
    have hN' := Lib.hid hN
    have ha1 : -1000000000 < a := by omega
    clear hN ha
    go_enter Tryd.func25, Tryd.ntmps25
    go_wp2_with fail
    rw [hN'.out]
    refine (split_row _ [m] N c w.heap.size _ hc hc0 (by simp) HNb (World.ownsRow_lit w #[.int .u8 (m.toNat : Int)] 1 (Nat.le_refl _) (by unfold maxLen; omega) rfl) (by simp)).mono ?_
    rintro e w1 ⟨v, rfl, hr, hb⟩
    have hcv := string_own hr (by simp)
    have hb' := ((Below.refl _ _).alloc (Nat.le_refl _) _).trans hb
    clear hr hb
    go_wp2
    go_ret
    exact ⟨_, rfl, by unfold Hid; rw [HT.out]; rfl, hb'⟩
  · obtain ⟨N, rfl⟩ : ∃ N : Nat, a = (N : Int) := ⟨a.natAbs, by omega⟩
    have HT : Hid (sgnText (N : Int) p m c = p :: sexa N c) := by unfold Hid sgnText; rw [if_neg h0, Int.toNat_natCast]
    have HNb : N < 1000000000 := by omega
    clear h0 ha
    go_enter Tryd.func25, Tryd.ntmps25
    go_wp2_with fail
    refine (split_row _ [p] N c w.heap.size _ hc hc0 (by simp) HNb (World.ownsRow_lit w #[.int .u8 (p.toNat : Int)] 1 (Nat.le_refl _) (by unfold maxLen; omega) rfl) (by simp)).mono ?_
    rintro e w1 ⟨v, rfl, hr, hb⟩
    have hcv := string_own hr (by simp)
    have hb' := ((Below.refl _ _).alloc (Nat.le_refl _) _).trans hb
    clear hr hb
    go_wp2
    go_ret
    exact ⟨_, rfl, by unfold Hid; rw [HT.out]; rfl, hb'⟩
end Go.Proofs.YtlgajjlnbcbijaaDoor
