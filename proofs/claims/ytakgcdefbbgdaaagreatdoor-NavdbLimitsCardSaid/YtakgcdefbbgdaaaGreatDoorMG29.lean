/-
  Several texts as one.
  Contracts: texts of angles (the program): digits, split, signed, LatText, LonText, PosText.
  Contracts: texts of latitudes, longitudes and positions, on both sides.
  Contract: the text of a database of the examples' header and nothing else.
-/
import Derived.Test.YtakgcdefbbgdaaaGreatDoorMG05
import Derived.Test.YtakgcdefbbgdaaaGreatDoorMG11
import Derived.Test.YtakgcdefbbgdaaaGreatDoorNvG
import Derived.Test.YtakgcdefbbgdaaaGreatDoorMG16
import Derived.Test.YtakgcdefbbgdaaaGreatDoorMG19
namespace Go.Proofs.YtakgcdefbbgdaaaGreatDoor
open Go.RowKit
set_option linter.unusedVariables false
set_option linter.unusedSimpArgs false

theorem infoU8 : (Tryz.prog.info? 5).map (fun i => (i.zero, i.size, i.bytes)) = some (some (.int .u8 0), 1, 1) := by kernel_rfl
/-- a row of bytes, of blocks from base on -/
def ByR (w : World) (base : Nat) (v : Value) (l : List UInt8) : Prop := w.ownsRow base 5 1 v l.length (Lib.byteCells l)
def ByPost (base : Nat) (l : List UInt8) (w : World) (e : Ending) (w' : World) : Prop := ∃ v', e = .returned v' ∧ ByR w' base v' l ∧ Below base w w'
theorem own_mk {w : World} {base n : Nat} {v : Value} {l : List UInt8} (h : w.ownsRow base 5 1 v n (Lib.byteCells l)) : ByR w base v l := by
  have : n = l.length := by
    have := h.1
    unfold Lib.byteCells at this
    rw [List.length_map] at this
    omega
  subst this
  exact h
/-- one zero is appended -/
theorem dig_step {base : Nat} {w0 wr w' : World} {v v' : Value} {l : List UInt8} {o : Obj} {n : Nat}
    (hlt : ∀ k, v.ownBlock = some k → base ≤ k ∧ k < wr.heap.size) (hb : Below base w0 wr) (hown' : w'.ownsRow base 5 1 v' (n + 1) (Lib.byteCells l ++ [.int .u8 48])) (hg : (wr.alloc o).grownBy w' v.ownBlock) (hB : base ≤ wr.heap.size) :
    ByR w' base v' (l ++ [48]) ∧ Below base w0 w' := by
  refine ⟨own_mk (n := n + 1) (by rw [byteCells_app]; exact hown'), (hb.alloc hB o).grown hg (by simp; omega) (fun k hk => (hlt k hk).1)⟩
theorem rep_snoc (l : List UInt8) (k : Nat) : (l ++ List.replicate k 48) ++ [48] = l ++ List.replicate (k + 1) (48 : UInt8) := by
  rw [List.append_assoc, ← List.replicate_succ']
theorem ByR.slice {w : World} {base : Nat} {v : Value} {l : List UInt8} (h : ByR w base v l) (hl : l ≠ []) : ∃ g c, v = .slice (some ⟨g, 0, none⟩) l.length c ∧ base ≤ g ∧ g < w.heap.size ∧ l.length ≤ c ∧ c ≤ maxLen := by
  have hlt := h.lt
  obtain ⟨_, ⟨rfl, h0⟩ | ⟨g, cap, cur, rfl, hb, hh, hn, hm, _⟩⟩ := h
  · exact absurd (List.eq_nil_of_length_eq_zero h0) hl
  · exact ⟨g, cap, rfl, hb, (hlt g rfl).2, hn, hm⟩
theorem ByR.len {w : World} {base : Nat} {v : Value} {l : List UInt8} (h : ByR w base v l) : ∃ A c, v = .slice A l.length c ∧ l.length ≤ c ∧ c ≤ maxLen := by
  obtain ⟨_, ⟨rfl, h0⟩ | ⟨g, cap, cur, rfl, hb, hh, hn, hm, _⟩⟩ := h
  · rw [h0]; exact ⟨_, _, rfl, Nat.le_refl _, by unfold maxLen; omega⟩
  · exact ⟨_, _, rfl, hn, hm⟩
/-- one digit is stored -/
theorem put_step {base : Nat} {w0 w : World} {g cap N c j m L : Nat} {l : List UInt8} (hL : l.length = L) (hj : j < c) (hm : c - j = m + 1)
    (h : ByR w base (.slice (some ⟨g, 0, none⟩) (L + c) cap) (digMid l N c j)) (hb : Below base w0 w) (hg : base ≤ g) :
    (∃ x, w.cell? ⟨g, L + m, none⟩ = some (.int .u8 x)) ∧ w.frozen? ⟨g, L + m, none⟩ = false ∧
    ByR (w.setCell ⟨g, L + m, none⟩ (.int .u8 (48 + ((N / 10 ^ j : Nat) : Int) % 10))) base (.slice (some ⟨g, 0, none⟩) (L + c) cap) (digMid l N c (j + 1)) ∧
      Below base w0 (w.setCell ⟨g, L + m, none⟩ (.int .u8 (48 + ((N / 10 ^ j : Nat) : Int) % 10))) := by
  subst hL
  have h' : w.ownsRow base 5 1 (.slice (some ⟨g, 0, none⟩) (l.length + c) cap) (l.length + c) (Lib.byteCells (digMid l N c j)) := by
    have := h
    unfold ByR at this
    rw [digMid_len l N c j (by omega)] at this
    exact this
  have hs := (h'.stored (l.length + m) (.int .u8 (48 + ((N / 10 ^ j : Nat) : Int) % 10))).1
  rw [digMid_set l N c j m hm] at hs
  have hlt : l.length + m < (digMid l N c j).length := by rw [digMid_len l N c j (by omega)]; omega
  refine ⟨⟨((digMid l N c j)[l.length + m]'hlt).toNat, ?_⟩, h'.frozenAt _, own_mk hs, hb.setCell (p := ⟨g, l.length + m, none⟩) hg _⟩
  rw [h'.cellAt (l.length + m) (by omega)]
  unfold Lib.byteCells
  rw [List.getElem?_map, List.getElem?_eq_getElem hlt]; rfl
set_option maxRecDepth 100000 in
set_option maxHeartbeats 2000000 in
theorem digits_row (v : Value) (l : List UInt8) (N c base : Nat) (w : World) (hc : c ≤ 4) (hc0 : 0 < c) (hl : l.length ≤ 40) (hN : N < 1000000000000) (hown : ByR w base v l) (hB : base ≤ w.heap.size) :
    Calls Tryz.prog 196 #[v, .int .i64 (N : Int), .int .i64 (c : Int)] w (ByPost base (l ++ fixD N c) w) := by
  obtain ⟨i0, hi, hz0, hz1, hz2⟩ := info_parts infoU8
  obtain ⟨A, cp, rfl, hcp, hcm⟩ := hown.len
  unfold maxLen at hcm
  obtain ⟨L, hL⟩ : ∃ L, l.length = L := ⟨_, rfl⟩
  have HL := Lib.hid hL
  have H0 : Hid (ByR w base (.slice A l.length cp) l) := hown
  rw [hL] at hcp hl ⊢
  clear hown hL
  have hci : (c : Int) ≤ 4 := by omega
  go_enter Tryz.func196, Tryz.ntmps196
  go_wp2
  go_loopw [0, 12] (fun b i wr => ∃ k : Nat, k ≤ c ∧ i = .int .i64 k ∧ Hid (ByR wr base b (l ++ List.replicate k 48)) ∧ Below base w wr) (fun _ i _ => c - (intOf i).toNat)
  case atStart => exact ⟨0, Nat.zero_le _, rfl, by unfold Hid; rw [List.replicate_zero, List.append_nil, ← HL.out]; exact H0.out, Below.refl _ _⟩
  case round =>
    obtain ⟨k, hk, rfl, hby, hbr⟩ := hrel
    have hBr : base ≤ wr.heap.size := Nat.le_trans hB hbr.size
    have hlen : (l ++ List.replicate k (48 : UInt8)).length = L + k := by rw [List.length_append, List.length_replicate, HL.out]
    by_cases hlt : k < c
    · have hown : wr.ownsRow base 5 1 u0 (L + k) (Lib.byteCells (l ++ List.replicate k 48)) := by
        have := hby.out
        unfold ByR at this
        rwa [hlen] at this
      have hlo := hown.lt
      clear hlen hby
      go_wp2_with (at_builtin; refine wpList_append_own _ rfl _ _ 42 rfl base 5 i0 (.int .u8 0) 1 1 Tryz.underlying42 hi hz0 hz1 hz2 rfl (by decide) _ _ _ rfl (hown.alloc _) ⟨wr.heap.size, 0, none⟩ 1 1 [.int .u8 48] rfl rfl ?c1 ?c2 ?c3 ?c4 ?c5 ?_)
      case c1 => intro j u hu; cases j with
        | zero => simp only [List.getElem?_cons_zero, Option.some.injEq] at hu; subst hu; simp [go_sem]
        | succ j => simp at hu
      case c2 => intro u hu; simp at hu; subst hu; rfl
      case c3 => unfold maxLen; omega
      case c4 => omega
      case c5 => simp; omega
      intro v' w' hown' hgrow _
      have R := dig_step hlo hbr hown' hgrow hBr
      rw [rep_snoc] at R
      have R1 := Lib.hid R.1
      have R2 := R.2
      clear R hown hown' hgrow hlo
      go_wp2
      go_roundw
      case rel => exact ⟨k + 1, hlt, by go_num, R1.out, R2⟩
      case measure => simp [intOf]; omega
    · obtain rfl : k = c := by omega
      obtain ⟨g, cap, hv, hbg, hgs, hcap, hcm2⟩ := hby.out.slice (by rw [← List.length_pos_iff]; omega)
      rw [hlen] at hv hcap
      unfold maxLen at hcm2
      subst hv
      have HM : Hid (ByR wr base (.slice (some ⟨g, 0, none⟩) (l.length + k) cap) (digMid l N k 0)) := by
        unfold Hid; rw [digMid_zero, HL.out]; exact hby.out
      clear hlen hby
      go_wp2_with fail
      obtain ⟨wo, rfl⟩ : ∃ wo : World, wo = wr := ⟨_, rfl⟩
      go_loopw [1, 8] (fun q i wr => ∃ (j m : Nat) (x : Int) (y : Nat), j + m = k ∧ i = .int .i64 x ∧ x + 1 = (L : Int) + (m : Int) ∧ q = .int .i64 (y : Int) ∧ Hid (N / 10 ^ j = y) ∧ Hid (ByR wr base (.slice (some ⟨g, 0, none⟩) (L + k) cap) (digMid l N k j)) ∧ Below base w wr) (fun _ i _ => ((intOf i) + 1 - L).toNat)
      case atStart => exact ⟨0, k, (L : Int) + (k : Int) - 1, N, by omega, by first | rfl | go_num, by omega, rfl, by unfold Hid; simp, by have := HM.out; rw [HL.out] at this; exact this, hbr⟩
      case round =>
        obtain ⟨j, m, x, y, hjm, rfl, hx, rfl, hy, hby, hbr2⟩ := hrel
        have hyb : y < 1000000000000 := by rw [← hy.out]; exact Nat.lt_of_le_of_lt (Nat.div_le_self _ _) hN
        rcases Nat.eq_zero_or_pos m with hm | hm
        · have hjk : j = k := by omega
          subst hjk
          have hxL : x < (L : Int) := by omega
          clear hx hm hjm
          go_wp2
          go_ret
          refine ⟨_, rfl, ?_, hbr2⟩
          have := hby.out
          rw [digMid_full] at this
          exact this
        · obtain ⟨p, rfl⟩ : ∃ p, m = p + 1 := ⟨m - 1, by omega⟩
          obtain rfl : x = ((L + p : Nat) : Int) := by omega
          obtain ⟨⟨u, hcell⟩, hfz, P1, P2⟩ := put_step HL.out (show j < k by omega) (show k - j = p + 1 by omega) hby.out hbr2 hbg
          rw [hy.out] at P1 P2
          have HP1 := Lib.hid P1
          have HP2 := Lib.hid P2
          have HJ := Lib.hid hjm
          have hlo : (L : Int) ≤ ((L + p : Nat) : Int) := by omega
          have hhi : ((L + p : Nat) : Int) < ((L + k : Nat) : Int) := by omega
          have hyd : y / 10 = N / 10 ^ (j + 1) := by rw [Nat.pow_succ, ← Nat.div_div_eq_div_mul, hy.out]
          have HYD := Lib.hid hyd
          clear P1 P2 hby hx hm hjm hyd
          go_wp2
          go_roundw
          case rel => exact ⟨j + 1, p, _, y / 10, by have := HJ.out; omega, rfl, by omega, by go_num, HYD.out.symm, HP1.out, HP2.out⟩
          case measure => simp [intOf]; omega

theorem ByPost.next {base : Nat} {l : List UInt8} {w w1 : World} {e : Ending} {w2 : World} (h : ByPost base l w1 e w2) (hb : Below base w w1) : ByPost base l w e w2 := by
  obtain ⟨v, he, hr, hb2⟩ := h
  exact ⟨v, he, hr, hb.trans hb2⟩
set_option maxRecDepth 100000 in
set_option maxHeartbeats 1000000 in
theorem split_row (v : Value) (l : List UInt8) (N c base : Nat) (w : World) (hc : c ≤ 3) (hc0 : 0 < c) (hl : l.length ≤ 20) (hN : N < 1000000000) (hown : ByR w base v l) (hB : base ≤ w.heap.size) :
    Calls Tryz.prog 144 #[v, .int .i64 (N : Int), .int .i64 (c : Int)] w (ByPost base (l ++ sexa N c) w) := by
  have q1 := Lib.hid (show (N : Int) / 360000 = ((N / 360000 : Nat) : Int) by omega)
  have q2 := Lib.hid (show (N : Int) % 360000 / 6000 = ((N % 360000 / 6000 : Nat) : Int) by omega)
  have q3 := Lib.hid (show (N : Int) % 6000 / 100 = ((N % 6000 / 100 : Nat) : Int) by omega)
  have q4 := Lib.hid (show (N : Int) % 100 = ((N % 100 : Nat) : Int) by omega)
  have d1 : N / 360000 < 1000000000000 := by omega
  have d2 : N % 360000 / 6000 < 1000000000000 := by omega
  have d3 : N % 6000 / 100 < 1000000000000 := by omega
  have d4 : N % 100 < 1000000000000 := by omega
  have HO := Lib.hid hown
  clear hown
  go_enter Tryz.func144, Tryz.ntmps144
  go_wp2_with fail
  rw [q1.out]
  refine (digits_row _ l _ c base _ (by omega) hc0 (by omega) d1 HO.out hB).mono ?_
  rintro e w1 ⟨v1, rfl, hr1, hb1⟩
  have R1 := Lib.hid hr1
  clear hr1
  go_wp2_with fail
  rw [q2.out]
  refine (digits_row _ _ _ 2 base _ (by omega) (by omega) (by rw [List.length_append, fixD_len]; omega) d2 R1.out (Nat.le_trans hB hb1.size)).mono ?_
  rintro e w2 ⟨v2, rfl, hr2, hb2⟩
  have R2 := Lib.hid hr2
  have hb02 := hb1.trans hb2
  clear hr2 hb1 hb2 R1
  go_wp2_with fail
  rw [q3.out]
  refine (digits_row _ _ _ 2 base _ (by omega) (by omega) (by rw [List.length_append, List.length_append, fixD_len, fixD_len]; omega) d3 R2.out (Nat.le_trans hB hb02.size)).mono ?_
  rintro e w3 ⟨v3, rfl, hr3, hb3⟩
  have R3 := Lib.hid hr3
  have hb03 := hb02.trans hb3
  clear hr3 hb02 hb3 R2
  go_wp2_with fail
  rw [q4.out]
  refine (digits_row _ _ _ 2 base _ (by omega) (by omega) (by rw [List.length_append, List.length_append, List.length_append, fixD_len, fixD_len, fixD_len]; omega) d4 R3.out (Nat.le_trans hB hb03.size)).mono ?_
  rintro e w4 ⟨v4, rfl, hr4, hb4⟩
  have hb04 := hb03.trans hb4
  have R4 : Hid (ByR w4 base v4 (l ++ sexa N c)) := by
    unfold Hid sexa
    simpa only [List.append_assoc] using hr4
  clear hr4 hb03 hb4 R3
  go_wp2
  go_ret
  exact ⟨v4, rfl, R4.out, hb04⟩
set_option maxRecDepth 100000 in
set_option maxHeartbeats 1000000 in
theorem signed_any (a : Int) (p m : UInt8) (c : Nat) (w : World) (hc : c ≤ 3) (hc0 : 0 < c) (ha : a.natAbs < 1000000000) :
    Calls Tryz.prog 138 #[.int .i64 a, .int .u8 (p.toNat : Int), .int .u8 (m.toNat : Int), .int .i64 (c : Int)] w (StrPost (sgnText a p m c) w) := by
  by_cases h0 : a < 0
  · obtain ⟨N, hN⟩ : ∃ N : Nat, -a = (N : Int) := ⟨a.natAbs, by omega⟩
    have HT : Hid (sgnText a p m c = m :: sexa N c) := by unfold Hid sgnText; rw [if_pos h0, hN, Int.toNat_natCast]
    have HNb : N < 1000000000 := by omega
    have hN' := Lib.hid hN
    have ha1 : -1000000000 < a := by omega
    clear hN ha
    go_enter Tryz.func138, Tryz.ntmps138
    go_wp2_with fail
    rw [hN'.out]
    refine (split_row _ [m] N c w.heap.size _ hc hc0 (by simp) HNb (World.ownsRow_lit w #[.int .u8 (m.toNat : Int)] 1 (Nat.le_refl _) (by unfold maxLen; omega) rfl) (by simp)).mono ?_
    rintro e w1 ⟨v, rfl, hr, hb⟩
    have hcv := string_own hr (by simp)
    have hb' := ((Below.refl _ _).alloc (Nat.le_refl _) _).trans hb
    clear hr hb
    go_wp2
    go_ret
    exact ⟨_, rfl, by unfold Hid; rw [HT.out]; rfl, hb'⟩
  · obtain ⟨N, rfl⟩ : ∃ N : Nat, a = (N : Int) := ⟨a.natAbs, by omega⟩
    have HT : Hid (sgnText (N : Int) p m c = p :: sexa N c) := by unfold Hid sgnText; rw [if_neg h0, Int.toNat_natCast]
    have HNb : N < 1000000000 := by omega
    clear h0 ha
    go_enter Tryz.func138, Tryz.ntmps138
    go_wp2_with fail
    refine (split_row _ [p] N c w.heap.size _ hc hc0 (by simp) HNb (World.ownsRow_lit w #[.int .u8 (p.toNat : Int)] 1 (Nat.le_refl _) (by unfold maxLen; omega) rfl) (by simp)).mono ?_
    rintro e w1 ⟨v, rfl, hr, hb⟩
    have hcv := string_own hr (by simp)
    have hb' := ((Below.refl _ _).alloc (Nat.le_refl _) _).trans hb
    clear hr hb
    go_wp2
    go_ret
    exact ⟨_, rfl, by unfold Hid; rw [HT.out]; rfl, hb'⟩
end Go.Proofs.YtakgcdefbbgdaaaGreatDoor
namespace Go.Proofs.YtakgcdefbbgdaaaGreatDoor
open Go.RowKit
set_option linter.unusedVariables false
set_option linter.unusedSimpArgs false

theorem replicate_cells (c : UInt8) (w : World) (C : Nat) : (convert 42 9 (.slice (some ⟨w.heap.size, 0, none⟩) 1 1)).run Tryz.prog (w.alloc (.cells #[.int .u8 (c.toNat : Int)] 5)) = .ok (.string (sb [c])) (w.alloc (.cells #[.int .u8 (c.toNat : Int)] 5)) :=
  string_own (base := w.heap.size) (l := [c]) (n := 1) (World.ownsRow_lit w #[.int .u8 (c.toNat : Int)] 1 (Nat.le_refl _) (by unfold maxLen; omega) rfl) (by decide)
theorem StrPost.size {l : List UInt8} {t : ByteArray} (h : bl t = l) : t.size = l.length := by rw [← bl_len, h]
/-- LatText, LonText -/
def AngTPost (l : List UInt8) (er : Int) (w : World) (e : Ending) (w' : World) : Prop := ∃ t : ByteArray, e = .returned (.tuple #[.string t, .int .i64 er]) ∧ Hid (bl t = l) ∧ Below w.heap.size w w'
set_option maxHeartbeats 1000000 in
theorem latText_any (a : Int) (w : World) : Calls Tryz.prog 83 #[.int .i64 a] w (AngTPost (latOut a) (if latB a then 0 else 2) w) := by
  cases h : latB a
  · have HO : Hid (latOut a = []) := by unfold Hid latOut; rw [h]; rfl
    have H := Lib.hid h
    clear h
    go_enter Tryz.func83, Tryz.ntmps83
    go_wp2_with fail
    refine (isLat_any a _).mono ?_
    rintro e w1 ⟨rfl, rfl⟩
    rw [H.out]
    go_wp2
    go_ret2
    exact ⟨_, rfl, HO.out.symm ▸ rfl, Below.refl _ _⟩
  · have hb := h
    unfold latB at hb
    rw [Bool.and_eq_true, decide_eq_true_iff, decide_eq_true_iff] at hb
    have hnb : a.natAbs < 1000000000 := by omega
    have HO : Hid (latOut a = sgnText a 78 83 2) := by unfold Hid latOut; rw [h]; rfl
    have H := Lib.hid h
    clear h hb
    go_enter Tryz.func83, Tryz.ntmps83
    go_wp2_with fail
    refine (isLat_any a _).mono ?_
    rintro e w1 ⟨rfl, rfl⟩
    rw [H.out]
    go_wp2_with fail
    refine (signed_any a 78 83 2 _ (by omega) (by omega) hnb).mono ?_
    rintro e w1 ⟨t, rfl, ht, hb⟩
    go_wp2
    go_ret2
    exact ⟨t, rfl, by unfold Hid; rw [HO.out]; exact ht.out, hb⟩
set_option maxHeartbeats 1000000 in
theorem lonText_any (a : Int) (w : World) : Calls Tryz.prog 84 #[.int .i64 a] w (AngTPost (lonOut a) (if lonB a then 0 else 2) w) := by
  cases h : lonB a
  · have HO : Hid (lonOut a = []) := by unfold Hid lonOut; rw [h]; rfl
    have H := Lib.hid h
    clear h
    go_enter Tryz.func84, Tryz.ntmps84
    go_wp2_with fail
    refine (isLon_any a _).mono ?_
    rintro e w1 ⟨rfl, rfl⟩
    rw [H.out]
    go_wp2
    go_ret2
    exact ⟨_, rfl, HO.out.symm ▸ rfl, Below.refl _ _⟩
  · have hb := h
    unfold lonB at hb
    rw [Bool.and_eq_true, decide_eq_true_iff, decide_eq_true_iff] at hb
    have hnb : a.natAbs < 1000000000 := by omega
    have HO : Hid (lonOut a = sgnText a 69 87 3) := by unfold Hid lonOut; rw [h]; rfl
    have H := Lib.hid h
    clear h hb
    go_enter Tryz.func84, Tryz.ntmps84
    go_wp2_with fail
    refine (isLon_any a _).mono ?_
    rintro e w1 ⟨rfl, rfl⟩
    rw [H.out]
    go_wp2_with fail
    refine (signed_any a 69 87 3 _ (by omega) (by omega) hnb).mono ?_
    rintro e w1 ⟨t, rfl, ht, hb⟩
    go_wp2
    go_ret2
    exact ⟨t, rfl, by unfold Hid; rw [HO.out]; exact ht.out, hb⟩

set_option maxHeartbeats 1000000 in
theorem posText_any (a b : Int) (w : World) : Calls Tryz.prog 38 #[.agg #[.int .i64 a, .int .i64 b]] w (AngTPost (posOut a b) (posErr a b) w) := by
  have HOK : Hid (posB a b = true → posOut a b = latOut a ++ lonOut b ∧ posErr a b = 0) := by
    intro h; unfold posOut posErr; rw [if_pos h, if_pos h]; exact ⟨rfl, rfl⟩
  have HNO : Hid (posB a b = false → posOut a b = [] ∧ posErr a b = 2) := by
    intro h; unfold posOut posErr; rw [h]; exact ⟨rfl, rfl⟩
  have HFOK : Hid (posB a b = true → ∀ (t u : ByteArray) w', bl t = latOut a → bl u = lonOut b → Below w.heap.size w w' → AngTPost (posOut a b) (posErr a b) w (.returned (.tuple #[.string (t ++ u), .int .i64 0])) w') := by
    intro h t u w' ht hu hb; refine ⟨_, by rw [(HOK.out h).2], ?_, hb⟩; unfold Hid; rw [(HOK.out h).1, bl_append, ht, hu]
  have HFNO : Hid (posB a b = false → ∀ w', Below w.heap.size w w' → AngTPost (posOut a b) (posErr a b) w (.returned (.tuple #[.string ⟨#[]⟩, .int .i64 2])) w') := by
    intro h w' hb; refine ⟨_, by rw [(HNO.out h).2], ?_, hb⟩; unfold Hid; rw [(HNO.out h).1]; rfl
  have l1 : (latOut a).length ≤ 9 := by unfold latOut; split <;> first | (rw [sgnText_len]; omega) | simp
  have l2 : (lonOut b).length ≤ 10 := by unfold lonOut; split <;> first | (rw [sgnText_len]; omega) | simp
  cases h1 : latB a <;> cases h2 : lonB b
  all_goals
    have H1 := Lib.hid h1
    have H2 := Lib.hid h2
    clear h1 h2
    go_enter Tryz.func38, Tryz.ntmps38
    go_wp2_with fail
    refine (latText_any a _).mono ?_
    rintro e w1 ⟨t, rfl, ht, hb1⟩
    rw [H1.out]
    have c1 : w1.cell? ⟨w.heap.size, 1, none⟩ = some (.int .i64 b) := (hb1.cell (p := ⟨w.heap.size, 1, none⟩) (by simp)).trans (by simp [go_sem])
    have z1 : w.heap.size < w1.heap.size := by have := hb1.size; simp at this; omega
    have hts : t.size ≤ 9 := by rw [StrPost.size ht.out]; exact l1
    go_wp2_with fail
    refine (lonText_any b _).mono ?_
    rintro e w2 ⟨u, rfl, hu, hb2⟩
    rw [H2.out]
    have hus : u.size ≤ 10 := by rw [StrPost.size hu.out]; exact l2
    have HB := Lib.hid ((((Below.refl w.heap.size w).alloc (Nat.le_refl _) (.cells #[.int .i64 a, .int .i64 b] 24)).trans (hb1.mono (by simp))).trans (hb2.mono (by omega)))
    clear hb1 hb2 c1 z1
    go_wp2
    go_ret2
    first
      | exact HFOK.out (by unfold posB; rw [H1.out, H2.out]; rfl) _ _ _ ht.out hu.out HB.out
      | exact HFNO.out (by unfold posB; rw [H1.out, H2.out]; rfl) _ HB.out
end Go.Proofs.YtakgcdefbbgdaaaGreatDoor
namespace Go.Proofs.YtakgcdefbbgdaaaGreatDoor
open Go.RowKit Go.Lib Go.Sort
set_option linter.unusedVariables false
set_option linter.unusedSimpArgs false
theorem Rd.of_bx4 {w : World} {g : Nat} {a b c d : Value} {t : TypeId} (h : Bx g #[a, b, c, d] t w) : Rd w 1 (.slice (some ⟨g, 0, none⟩) 4 4) 4 [a, b, c, d] :=
  ⟨rfl, some ⟨g, 0, none⟩, 4, rfl, Nat.le_refl _, by unfold maxLen; omega, fun _ => ⟨g, 0, rfl, h.lt, fun j u hu => by rw [Nat.zero_add]; exact h.cell j (by simpa using hu)⟩⟩
theorem isBld_below {T e : TypeId} {B b : Nat} {bs : List Value} {w w' : World} (h : Lib.IsBuilder T e B b bs w) (hb : Below w.heap.size w w') : Lib.IsBuilder T e B b bs w' := by
  have one : ∀ p, Lib.BuilderAt T e B b p bs w → Lib.BuilderAt T e B b p bs w' := by
    rintro p ⟨h1, v, h2, h3, h4⟩
    exact ⟨h1, v, (hb.block b (heap_lt h2)).trans h2, own_below h3 hb, h4⟩
  rcases h with h | h
  · exact .inl (one _ h)
  · exact .inr (one _ h)
theorem bytes_str (s : ByteArray) : Lib.strCells s = Lib.byteCells (bl s) := rfl
theorem bytes_len (a : List UInt8) : (Lib.byteCells a).length = a.length := by unfold Lib.byteCells; rw [List.length_map]
theorem fxGood_nil : FxGood [] where
  ck := by intro f h; cases h
  at_ := by intro f h; cases h
  sz := by intro f h; cases h
  up := by intro k h; simp at h
  le := by simp
set_option maxRecDepth 100000 in
set_option maxHeartbeats 4000000 in
theorem tline_any (v : Value) (ts : List (List UInt8)) (B b : Nat) (bs : List UInt8) (w : World) (h : Rd w 1 v ts.length (scells ts)) (hb : Lib.IsBuilder 44 5 B b (Lib.byteCells bs) w) (hBw : B ≤ w.heap.size) (hn : ts.length ≤ 1048576) (hsz : bs.length + (joinL ts).length + 1 ≤ 1000000000) :
    Calls Tryz.prog 34 #[v, .pointer (some ⟨b, 0, none⟩)] w fun e w' => e = .returned (.tuple #[]) ∧ Lib.IsBuilder 44 5 B b (Lib.byteCells (bs ++ (joinL ts ++ [10]))) w' ∧ Below B w w' := by
  have HB := Lib.hid hb
  clear hb
  go_enter Tryz.func34, Tryz.ntmps34
  go_wp2_with fail
  refine (join_call v ts _ h (by omega) (by omega)).mono ?_
  rintro e w1 ⟨t, rfl, ht, hb1⟩
  have hts : t.size = (joinL ts).length := by rw [← ht.out]; rfl
  have hsz1 : B ≤ w1.heap.size := by have := hb1.size; omega
  have HB1 := Lib.hid (isBld_below HB.out hb1)
  have D1 := Lib.hid (hb1.mono hBw)
  clear hb1
  go_wp2_with fail
  refine (Tryz.Builder_WriteString B b _ t _ HB1.out (by rw [bytes_len]; omega) hsz1).mono ?_
  rintro e w2 ⟨rfl, hb2, hbl2⟩
  have D2 := Lib.hid (D1.out.trans hbl2)
  have hsz2 : B ≤ w2.heap.size := by have := hbl2.size; omega
  have HB2 := Lib.hid hb2
  clear hb2 hbl2
  go_wp2_with fail
  refine (Tryz.Builder_WriteByte B b _ 10 _ (.inr HB2.out) (by rw [List.length_append, bytes_len, bytes_str, bytes_len, bl_len]; omega) hsz2).mono ?_
  rintro e w3 ⟨rfl, hb3, hbl3⟩
  have HB3 := Lib.hid hb3
  have D3 := Lib.hid (D2.out.trans hbl3)
  clear hb3 hbl3
  go_wp2
  go_end0
  refine ⟨rfl, ?_, D3.out⟩
  have h := HB3.out
  rw [bytes_str, ht.out, List.append_assoc] at h
  rw [byteCells_app, byteCells_app]
  exact .inr h
/-- the header's text -/
def hdrT : List UInt8 := joinL [[68, 65, 84, 65, 66, 65, 83, 69], [87, 69, 83, 84], cyc26, posOut 16560000 (-43200000)] ++ [10]
set_option maxRecDepth 100000 in
set_option maxHeartbeats 8000000 in
theorem ntext_ex (v : Value) (w : World) (h : FxsR w v []) :
    Calls Tryz.prog 11 #[.agg (dbH v)] w fun e w' => e = .returned (.tuple #[.string (sb hdrT), .int .i64 0]) ∧ Below w.heap.size w w' := by
  obtain ⟨A, c, rfl, hc, hm⟩ := h.form
  have H := Lib.hid h
  have hc0 : 0 ≤ c := Nat.zero_le _
  obtain ⟨w0, hw0⟩ : ∃ W, w.alloc (.cells (dbH (.slice A 0 c)) 31) = W := ⟨_, rfl⟩
  have B0 : Hid (Below w.heap.size w w0) := by rw [← hw0]; exact (Below.refl _ _).alloc (Nat.le_refl _) _
  have X0 : Hid (Bx w.heap.size (dbH (.slice A 0 c)) 31 w0) := by rw [← hw0]; exact Bx.last w _ _
  obtain ⟨⟨x0, x1, x2, x3, x4, x5, x6, x7, x8⟩, _⟩ := Bx.cells9 X0.out
  have xl := Bx.lt X0.out
  have hck := fun W hW => ncheck_ex (.slice A 0 c) [] W hW fxGood_nil
  have hcy := cycleText_26
  have hlen : ([] : List UInt8).length + (joinL [[68, 65, 84, 65, 66, 65, 83, 69], [87, 69, 83, 84], cyc26, posOut 16560000 (-43200000)]).length + 1 ≤ 1000000000 := of_decide_eq_true (by kernel_rfl)
  unfold dbH at hw0 hck
  have HW0 := Lib.hid hw0
  clear hw0 h
  unfold dbH
  simp only [List.length_nil]
  go_enter Tryz.func11, Tryz.ntmps11
  go_wp2_with fail
  rw [HW0.out]
  go_wp2_with fail
  refine (hck _ (H.out.below B0.out)).mono ?_
  rintro e w1 ⟨rfl, hb1⟩
  have B1 := Lib.hid (Below.then_ B0.out hb1)
  have X1 := Lib.hid (X0.out.via hb1)
  clear x0 x1 x2 x3 x4 x5 x6 x7 x8 xl hb1 B0 X0 hck HW0
  obtain ⟨b, hbq⟩ : ∃ b, w1.heap.size = b := ⟨_, rfl⟩
  obtain ⟨w2, hw2⟩ : ∃ W, w1.alloc (.cells #[.pointer none, .slice none 0 0] 44) = W := ⟨_, rfl⟩
  have S2 : Hid (Lib.IsBuilder 44 5 b b (Lib.byteCells []) w2) := by
    unfold Hid; rw [← hbq, ← hw2]; exact Lib.fresh_isBuilder _ _ w1
  have hb2 : Below w1.heap.size w1 w2 := by rw [← hw2]; exact (Below.refl _ _).alloc (Nat.le_refl _) _
  have B2 := Lib.hid (Below.then_ B1.out hb2)
  have X2 := Lib.hid (X1.out.via hb2)
  have L2 : Hid (w.heap.size < b ∧ b ≤ w2.heap.size) := ⟨by rw [← hbq]; exact X1.out.lt, by rw [← hbq]; exact hb2.size⟩
  obtain ⟨⟨x0, x1, x2, x3, x4, x5, x6, x7, x8⟩, _⟩ := Bx.cells9 X2.out
  have xl := Bx.lt X2.out
  have HW2 := Lib.hid hw2
  have HBQ := Lib.hid hbq
  clear hb2 hw2 hbq B1 X1
  go_upto_region 5 with fail
  rw [HW2.out, HBQ.out]
  go_wp2_with fail
  refine (hcy _).mono ?_
  rintro e w3 ⟨rfl, hb3⟩
  have S3 := Lib.hid (isBld_below S2.out hb3)
  have B3 := Lib.hid (Below.then_ B2.out hb3)
  have X3 := Lib.hid (X2.out.via hb3)
  have L3 : Hid (w.heap.size < b ∧ b ≤ w3.heap.size) := ⟨L2.out.1, Nat.le_trans L2.out.2 hb3.size⟩
  clear x0 x1 x2 x3 x4 x5 x6 x7 x8 xl hb3 HW2 S2 B2 X2 L2 HBQ hcy
  obtain ⟨⟨x0, x1, x2, x3, x4, x5, x6, x7, x8⟩, _⟩ := Bx.cells9 X3.out
  have xl := Bx.lt X3.out
  go_wp2_with fail
  refine (posText_any 16560000 (-43200000) _).mono ?_
  rintro e w4 ⟨p, rfl, hp, hb4⟩
  have S4 := Lib.hid (isBld_below S3.out hb4)
  have B4 := Lib.hid (Below.then_ B3.out hb4)
  have X4 := Lib.hid (X3.out.via hb4)
  have L4 : Hid (w.heap.size < b ∧ b ≤ w4.heap.size) := ⟨L3.out.1, Nat.le_trans L3.out.2 hb4.size⟩
  have hpe : posErr 16560000 (-43200000) = 0 := by kernel_rfl
  rw [hpe]
  clear x0 x1 x2 x3 x4 x5 x6 x7 x8 xl hb4 S3 B3 X3 L3 hpe
  obtain ⟨⟨x0, x1, x2, x3, x4, x5, x6, x7, x8⟩, _⟩ := Bx.cells9 X4.out
  have xl := Bx.lt X4.out
  have hps : p = sb (posOut 16560000 (-43200000)) := by rw [← hp.out]; rfl
  subst hps
  obtain ⟨w5, hw5⟩ : ∃ W, w4.alloc (.cells #[.string ⟨#[68, 65, 84, 65, 66, 65, 83, 69]⟩, .string ⟨#[87, 69, 83, 84]⟩, .string (sb cyc26), .string (sb (posOut 16560000 (-43200000)))] 9) = W := ⟨_, rfl⟩
  have hb5 : Below w4.heap.size w4 w5 := by rw [← hw5]; exact (Below.refl _ _).alloc (Nat.le_refl _) _
  have R5 : Hid (Rd w5 1 (.slice (some ⟨w4.heap.size, 0, none⟩) 4 4) 4 (scells [[68, 65, 84, 65, 66, 65, 83, 69], [87, 69, 83, 84], cyc26, posOut 16560000 (-43200000)])) := by
    rw [← hw5]; exact Rd.of_bx4 (Bx.last w4 _ _)
  have S5 := Lib.hid (isBld_below S4.out hb5)
  have B5 := Lib.hid (Below.then_ B4.out hb5)
  have X5 := Lib.hid (X4.out.via hb5)
  have L5 : Hid (w.heap.size < b ∧ b ≤ w5.heap.size) := ⟨L4.out.1, Nat.le_trans L4.out.2 hb5.size⟩
  have HW5 := Lib.hid hw5
  clear hb5 hw5 S4 B4 X4 L4 hp
  go_wp2_with fail
  rw [HW5.out]
  refine (tline_any _ [[68, 65, 84, 65, 66, 65, 83, 69], [87, 69, 83, 84], cyc26, posOut 16560000 (-43200000)] b b [] _ R5.out S5.out L5.out.2 (by simp) hlen).mono ?_
  rintro e w6 ⟨rfl, hs6, hb6⟩
  have S6 := Lib.hid hs6
  have B6 := Lib.hid (B5.out.trans (hb6.mono (by have := L5.out.1; omega)))
  have X6 : Hid (Bx w.heap.size (dbH (.slice A 0 c)) 31 w6) := (hb6.block _ L5.out.1).trans X5.out
  have L6 : Hid (b ≤ w6.heap.size) := Nat.le_trans L5.out.2 hb6.size
  have L7 : Hid (w.heap.size ≤ b) := Nat.le_of_lt L5.out.1
  rw [List.nil_append] at S6
  clear x0 x1 x2 x3 x4 x5 x6 x7 x8 xl hs6 hb6 S5 B5 X5 L5 R5 HW5
  obtain ⟨⟨x0, x1, x2, x3, x4, x5, x6, x7, x8⟩, _⟩ := Bx.cells9 X6.out
  have xl := Bx.lt X6.out
  go_wp2_with fail
  go_loopw [56] (fun iv wr => iv = .int .i64 0 ∧ wr = w6) (fun iv _ => 0)
  case atStart => exact ⟨rfl, rfl⟩
  case round =>
    obtain ⟨rfl, rfl⟩ := hrel
    go_wp2
    go_loopw [73] (fun iv wx => iv = .int .i64 0 ∧ wx = wr) (fun iv _ => 0)
    case atStart => exact ⟨rfl, rfl⟩
    case round =>
      obtain ⟨rfl, rfl⟩ := hrel
      go_wp2
      go_loopw [88] (fun iv wx => iv = .int .i64 0 ∧ wx = wr) (fun iv _ => 0)
      case atStart => exact ⟨rfl, rfl⟩
      case round =>
        obtain ⟨rfl, rfl⟩ := hrel
        go_wp2_with fail
        refine (Tryz.Builder_String_any b b hdrT wr S6.out L6.out).mono ?_
        rintro e w7 ⟨rfl, hb7⟩
        have B7 := Lib.hid (B6.out.trans (hb7.mono L7.out))
        clear x0 x1 x2 x3 x4 x5 x6 x7 x8 xl hb7
        go_wp2
        go_ret2
        exact ⟨rfl, B7.out⟩
end Go.Proofs.YtakgcdefbbgdaaaGreatDoor
