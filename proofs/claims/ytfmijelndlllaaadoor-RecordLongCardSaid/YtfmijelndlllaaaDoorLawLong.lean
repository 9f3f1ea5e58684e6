/-
  The walk of the law RecordLong.
-/
import Derived.Test.YtfmijelndlllaaaDoorAwake
import Derived.Test.YtfmijelndlllaaaDoorSame
import Derived.Laws.BytesString
import Derived.Laws.Cells
import Derived.Deep.OwnRows
namespace Go.Proofs.YtfmijelndlllaaaDoor
open Go.RowKit
set_option linter.unusedVariables false
set_option linter.unusedSimpArgs false

theorem push_size (ns : List Int) : ∀ s : ByteArray, (ns.foldl (fun r n => r.push (UInt8.ofNat n.toNat)) s).size = s.size + ns.length := by
  induction ns with
  | nil => intro s; rfl
  | cons n ns ih =>
    intro s
    rw [List.foldl_cons, ih, ByteArray.size_push, List.length_cons]; omega
/-- N bytes lie in block g -/
def BytesAt (w : World) (g N : Nat) : Prop := ∀ j, j < N → (∃ x, w.cell? ⟨g, j, none⟩ = some (.int .u8 x)) ∧ w.frozen? ⟨g, j, none⟩ = false
theorem string_of_bytes {w : World} {g N c : Nat} (h : BytesAt w g N) : ∃ t : ByteArray, t.size = N ∧ (convert 37 9 (.slice (some ⟨g, 0, none⟩) N c)).run Tryd.prog w = .ok (.string t) w := by
  have hf : ∃ f : Nat → Int, ∀ j, j < N → w.cell? ⟨g, j, none⟩ = some (.int .u8 (f j)) := by
    refine ⟨fun j => if hj : j < N then Classical.choose (h j hj).1 else 0, fun j hj => ?_⟩
    simp only [dif_pos hj]
    exact Classical.choose_spec (h j hj).1
  obtain ⟨f, hf⟩ := hf
  have hl := run_loadCells_list (P := Tryd.prog) (w := w) ⟨g, 0, none⟩ (((List.range N).map f).map (Value.int .u8)) (by
    intro j v hv
    have hj : j < N := by
      have := (List.getElem?_eq_some_iff.1 hv).1
      simpa using this
    rw [List.getElem?_map, List.getElem?_map, List.getElem?_range hj] at hv
    simp only [Option.map_some, Option.some.injEq] at hv
    subst hv
    rw [show ((⟨g, 0, none⟩ : Addr).add j) = ⟨g, j, none⟩ by simp [Addr.add_lit]]
    exact hf j hj)
  have hlen : (((List.range N).map f).map (Value.int .u8)).length = N := by simp
  rw [hlen] at hl
  refine ⟨_, ?_, (run_convert_bytes_string w _ _ _ _ _ _ Tryd.underlying37 Tryd.underlying5 Tryd.underlying9).trans (run_bytesToString w _ N c ((List.range N).map f) hl)⟩
  rw [push_size, List.length_map, List.length_range]
  show 0 + N = N
  omega
theorem bytesAt_set {w : World} {g N k : Nat} (h : BytesAt w g N) (x : Int) : BytesAt (w.setCell ⟨g, k, none⟩ (.int .u8 x)) g N := by
  intro j hj
  obtain ⟨⟨y, hy⟩, hf⟩ := h j hj
  refine ⟨?_, by rw [World.frozen?_setCell]; exact hf⟩
  by_cases hjk : j = k
  · subst hjk
    exact ⟨x, World.cell?_setCell_same w _ _ hy⟩
  · refine ⟨y, ?_⟩
    rw [World.cell?_setCell_other w _ _ _ (by intro e; injection e with e1 e2; exact hjk (by omega))]
    exact hy
theorem madeNew (w : World) (N : Nat) (e : TypeId) : BytesAt (w.alloc (.cells (madeCells #[.int .u8 0] N) e)) w.heap.size N := by
  intro j hj
  have hsz : (madeCells #[Value.int .u8 0] N)[j]? = some (.int .u8 0) := by
    rw [← Array.getElem?_toList, toList_madeCells_one, List.getElem?_replicate, if_pos hj]
  exact ⟨⟨0, by simpa [go_sem] using hsz⟩, by simp [go_sem]⟩
theorem fourNew (w : World) (e : TypeId) (a b c d : Int) : BytesAt (w.alloc (.cells #[.int .u8 a, .int .u8 b, .int .u8 c, .int .u8 d] e)) w.heap.size 4 := by
  intro j hj
  match j, hj with
  | 0, _ => exact ⟨⟨a, by simp [go_sem]⟩, by simp [go_sem]⟩
  | 1, _ => exact ⟨⟨b, by simp [go_sem]⟩, by simp [go_sem]⟩
  | 2, _ => exact ⟨⟨c, by simp [go_sem]⟩, by simp [go_sem]⟩
  | 3, _ => exact ⟨⟨d, by simp [go_sem]⟩, by simp [go_sem]⟩
theorem readDgs_len (l : List UInt8) : (readDgs l).length ≤ 50 := by
  unfold readDgs
  split
  · simp
  · rw [List.length_take]; omega

set_option maxRecDepth 100000 in
set_option maxHeartbeats 4000000 in
theorem recordLong_walk (n b : Nat) (hn : n < 65536) (hb : b < 256) (w : World) (E : Env w) :
    Calls Tryd.prog 5 #[.int .u16 (n : Int), .int .u8 (b : Int)] w fun e w' => e = .returned (.bool true) ∧ Below w.heap.size w w' := by
  have hmk0 := run_make_row' (P := Tryd.prog) 37 5 (.int .u8 0) 1 Tryd.underlying37 (by kernel_rfl) rfl .i64 .i64 262145 (by omega) (by omega)
  obtain ⟨N, hN⟩ : ∃ N : Nat, N = 262145 := ⟨_, rfl⟩
  obtain ⟨C, hC⟩ : ∃ C, C = madeCells #[Value.int .u8 0] N := ⟨_, rfl⟩
  have hmk : ∀ w : World, (Instr.makeSlice 37 (.int .i64 262145) (.int .i64 262145)).run Tryd.prog w = .ok (.slice (some ⟨w.heap.size, 0, none⟩) N N) (w.alloc (.cells C 5)) := by
    rw [hC, hN]; exact hmk0
  have hnew : ∀ w : World, Hid (BytesAt (w.alloc (.cells C 5)) w.heap.size N) := by
    intro w; rw [hC]; exact madeNew w N _
  have HN := Lib.hid hN
  have hNb : (N : Int) ≤ 300000 := by omega
  clear hC hmk0 hN
  go_enter Tryd.func5, Tryd.ntmps5
  go_wp2_with fail
  refine (awake_any _ E).mono ?_
  rintro e w1 ⟨rfl, hb1⟩
  have E1 := E.below hb1
  have hnew1 := hnew w1
  clear hnew
  obtain ⟨g, hg⟩ : ∃ g, w1.heap.size = g := ⟨_, rfl⟩
  rw [hg] at hnew1
  go_wp2_with fail
  go_loopw [18] (fun i wr => ∃ k : Nat, k ≤ N ∧ i = .int .i64 k ∧ Hid (BytesAt wr g N) ∧ Below g w1 wr) (fun i _ => N - (intOf i).toNat)
  case atStart => exact ⟨0, Nat.zero_le _, rfl, hnew1, (Below.refl _ _).alloc (Nat.le_of_eq hg.symm) _⟩
  case round =>
    obtain ⟨k, hk, rfl, hby, hbr⟩ := hrel
    by_cases hlt : k < N
    · have hki : (k : Int) < (N : Int) := by omega
      obtain ⟨⟨x, hx⟩, hf⟩ := hby.out k hlt
      go_wp2
      go_roundw
      case rel => exact ⟨k + 1, hlt, by go_num, bytesAt_set hby.out 65, hbr.setCell (p := ⟨g, k, none⟩) (Nat.le_refl _) _⟩
      case measure => simp [intOf]; omega
    · have hkN : k = N := by omega
      obtain ⟨t, hts, hcv⟩ := string_of_bytes (c := N) hby.out
      have hread := Lib.hid hcv
      have hsz : t.size = 262145 := hts.trans HN.out
      have hki : (N : Int) ≤ (k : Int) := by omega
      have H1 : Hid (readRecs (bl t) = []) := if_pos (by rw [bl_len]; omega)
      have H2 : Hid (readDgs (bl t) = [(1, 1, 3)]) := if_pos (by rw [bl_len]; omega)
      have hbw := Below.then_ hb1 (hg ▸ hbr : Below w1.heap.size w1 wr)
      have E2 := E.below hbw
      clear hts hkN
      go_wp2_with fail
      refine (read_any t _ E2 (by unfold maxLen; omega)).mono ?_
      rintro e w2 ⟨v, d, rfl, hv, hd, hb2⟩
      rw [H1.out] at hv
      rw [H2.out] at hd
      obtain ⟨A1, c1, rfl, _⟩ := hv.form
      obtain ⟨A2, c2, rfl, _⟩ := hd.form
      have hb02 := Below.then_ hbw hb2
      have E3 := E2.below hb2
      clear hcv hby hsz
      go_wp2_with fail
      refine (sameDiags_same _ _ [(1, 1, 3)] _ (hd.below ((Below.refl _ _).alloc (Nat.le_refl _) _)) (rdT_new w2 [.int .i64 1, .int .i64 1, .int .i64 3] _ 3 1 rfl (by unfold maxLen; omega))).mono ?_
      rintro e w3 ⟨rfl, hb3⟩
      have hb03 := Below.then_ hb02 (below_box hb3.below)
      have E4 := E.below hb03
      clear hv hd
      obtain ⟨m, hm⟩ : ∃ m, n % 120 = m := ⟨_, rfl⟩
      have hmb : m < 120 := by omega
      have hmi : Int.tmod (n : Int) 120 = (m : Int) := by rw [Int.tmod_eq_emod_of_nonneg (by omega)]; omega
      go_wp2_with fail
      go_loopw [10, 45] (fun sv i wr => ∃ (k : Nat) (u : ByteArray), k ≤ m ∧ i = .int .i64 k ∧ sv = .string u ∧ u.size = 4 * k ∧ Below w3.heap.size w3 wr) (fun _ i _ => m - (intOf i).toNat)
      case atStart => exact ⟨0, ⟨#[]⟩, Nat.zero_le _, rfl, rfl, rfl, Below.refl _ _⟩
      case round =>
        obtain ⟨k2, u, hk2, rfl, rfl, hus, hbx⟩ := hrel
        by_cases hlt2 : k2 < m
        · have hki2 : (k2 : Int) < (m : Int) := by omega
          obtain ⟨t4, ht4, hcv4⟩ := string_of_bytes (c := 4) (fourNew wr 5 65 32 (b : Int) 10)
          have hsz4 : (u ++ t4).size = 4 * (k2 + 1) := by rw [ByteArray.size_append]; omega
          go_wp2
          go_roundw
          case rel => exact ⟨k2 + 1, _, hlt2, by go_num, rfl, hsz4, hbx.alloc hbx.size _⟩
          case measure => simp [intOf]; omega
        · have hki2 : (m : Int) ≤ (k2 : Int) := by omega
          have hus2 : u.size ≤ 480 := by omega
          have hb04 := Below.then_ hb03 hbx
          have E5 := E.below hb04
          clear hmi hm hus
          go_wp2_with fail
          refine (read_any u _ E5 (by unfold maxLen; omega)).mono ?_
          rintro e w4 ⟨v, d, rfl, hv, hd, hb4⟩
          go_wp2_with fail
          refine (rread_any u _ (by unfold maxLen; omega)).mono ?_
          rintro e w5 ⟨v2, d2, rfl, hv2, hd2, hb5⟩
          obtain ⟨A3, c3, rfl, _⟩ := (hd.below hb5).form
          go_wp2_with fail
          refine (sameLines_same _ _ _ _ (hv.below hb5) hv2).mono ?_
          rintro e w6 ⟨rfl, hb6⟩
          go_wp2_with fail
          refine (sameDiags_same _ _ _ _ ((hd.below hb5).below hb6.below) (hd2.below hb6.below)).mono ?_
          rintro e w7 ⟨rfl, hb7⟩
          have hl50 : ((readDgs (bl u)).length : Int) ≤ 50 := by have := readDgs_len (bl u); omega
          have hB := Below.then_ (Below.then_ (Below.then_ (Below.then_ hb04 hb4) hb5) hb6.below) hb7.below
          clear hv hd hv2 hd2
          go_wp2
          go_ret
          exact ⟨rfl, hB⟩
end Go.Proofs.YtfmijelndlllaaaDoor
