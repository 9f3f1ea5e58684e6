/-
  The walk of the law NavdbLimits.
-/
import Derived.Test.YtakgcdefbbgdaaaGreatDoorMG28
import Derived.Laws.BytesString
import Derived.Laws.Cells
namespace Go.Proofs.YtakgcdefbbgdaaaGreatDoor
open Go.RowKit Go.Lib Go.Sort
set_option linter.unusedVariables false
set_option linter.unusedSimpArgs false
/-- what Compile answers at so many waypoints -/
def LimPost (n : Nat) (w : World) (e : Ending) (w' : World) : Prop :=
  (n ≤ 400 ∧ ∃ A c, e = .returned (.tuple #[.agg (dbH (.slice A n c)), .slice none 0 0]) ∧ FxsR w' (.slice A n c) ((List.range' 0 n).map limFx) ∧ Below w.heap.size w w') ∨
  (400 < n ∧ ∃ A c, e = .returned (.tuple #[.agg dbZ, .slice A (n - 400) c]) ∧ Rd w' 3 (.slice A (n - 400) c) (n - 400) (dicells (limBad 0 n)) ∧ Below w.heap.size w w')
theorem limBad_le {n : Nat} (h : n ≤ 400) : limBad 0 n = [] := by
  unfold limBad
  rw [List.filter_eq_nil_iff.2 (fun k hk => by
    rw [List.mem_range'_1] at hk
    simp; omega)]
  rfl
theorem limBad_len {n : Nat} (h : 400 < n) (h2 : n ≤ 402) : (limBad 0 n).length = n - 400 := by
  have : n = 401 ∨ n = 402 := by omega
  rcases this with rfl | rfl
  · decide +kernel
  · decide +kernel
theorem lim_S {n : Nat} (hn : n ≤ 402) : secGo cp0.head ((List.range' 0 n).map lnK) = { cp0.head with all := (List.range' 0 n).map limEl } := lim_go n 0 cp0.head (by omega) rfl rfl rfl
theorem lim_T {n : Nat} (hn : n ≤ 402) (all : List Fx) : thGo all 0 0 [] [] { cp0.head with all := (List.range' 0 n).map limEl } ((List.range' 0 n).map limEl) = { cp0.head with all := (List.range' 0 n).map limEl, bad := limBad 0 n } :=
  lim_th all 0 [] n 0 _ (by omega)
theorem limT_len {n : Nat} (hn : n ≤ 402) : (limT n).length ≤ 403 * 201 := by
  have h := joinW_len (hdrWs :: (List.range' 0 n).map wpW) (fun ws h => by
    rcases List.mem_cons.1 h with rfl | h
    · exact hdr_ok
    · obtain ⟨k, hk, rfl⟩ := List.mem_map.1 h
      rw [List.mem_range'_1] at hk
      exact wpW_ok (by omega))
  rw [List.length_cons, List.length_map, List.length_range'] at h
  exact Nat.le_trans h (Nat.mul_le_mul_right 201 (by omega))
set_option maxRecDepth 100000 in
theorem compile_lim (n : Nat) (hn : n ≤ 402) (s : ByteArray) (hs : bl s = limT n) (w : World) (E : Env w) : Calls Tryz.prog 6 #[.string s] w (LimPost n w) := by
  have hr := limT_read hn
  rw [← hs] at hr
  have hS := lim_S hn
  have hlen := limT_len hn
  have hel : ∀ p ∈ (secGo cp0.head ((List.range' 0 n).map lnK)).all, ElOk p ∧ p.kd = 102 := by
    rw [hS]
    intro p hp
    have hp2 : p ∈ (List.range' 0 n).map limEl := hp
    obtain ⟨k, _, rfl⟩ := List.mem_map.1 hp2
    exact ⟨limEl_ok k, rfl⟩
  have hm : s.size ≤ maxLen := by rw [← bl_len, hs]; exact Nat.le_trans hlen (by decide)
  have hln : ((List.range' 0 n).map lnK).length ≤ 1000 := by rw [List.length_map, List.length_range']; omega
  have hsec := lim_sec n 0 cp0.head (by omega)
  have hT := lim_T hn (fixesOf ((List.range' 0 n).map limEl))
  obtain ⟨R, hR⟩ : ∃ R, (List.range' 0 n).map lnK = R := ⟨_, rfl⟩
  rw [hR] at hr hS hel hln hsec
  have hc := compile_any s w E R hm hr.1 hr.2 hln hsec (fun p hp => (hel p hp).1) (fun _ p hp => (hel p hp).2)
  rw [hS] at hc
  refine hc.mono ?_
  rintro e w' h
  have h2 : CompPost { cp0.head with all := (List.range' 0 n).map limEl, bad := limBad 0 n } w e w' := by rw [← hT]; exact h
  clear h hT hc
  rcases h2 with ⟨h, v, rfl, hr2, hb⟩ | ⟨h, v, L, D, rfl, hL, hst, hf, hb⟩
  · have h4 : 400 < n := by
      rcases Nat.lt_or_ge 400 n with h5 | h5
      · exact h5
      · exact absurd (limBad_le h5) h
    have hl := limBad_len h4 hn
    have e1 : min (limBad 0 n).length 50 = n - 400 := by rw [hl]; omega
    have e2 : (limBad 0 n).take 50 = limBad 0 n := List.take_of_length_le (by rw [hl]; omega)
    have hr3 : Rd w' 3 v (min (limBad 0 n).length 50) (dicells ((limBad 0 n).take 50)) := hr2
    rw [e1, e2] at hr3
    obtain ⟨A, c, rfl, _, _⟩ := hr3.form
    exact .inr ⟨h4, A, c, rfl, hr3, hb⟩
  · have h4 : n ≤ 400 := by
      rcases Nat.lt_or_ge 400 n with h5 | h5
      · have hl := limBad_len h5 hn
        have h6 : limBad 0 n = [] := h
        rw [h6, List.length_nil] at hl
        omega
      · exact h5
    have hL2 : L.map (·.1) = (List.range' 0 n).map limFx := by rw [← lim_fixes]; exact hL
    have hD := lim_stb hn hL2 hst
    rw [hD] at hf
    obtain ⟨A, c, rfl, _, _⟩ := hf.form
    rw [List.length_map, List.length_range'] at hf ⊢
    exact .inl ⟨h4, A, c, rfl, hf, hb⟩
theorem lim_cell {n j : Nat} (h4 : 400 < n) (h2 : n ≤ 402) (hj : j < n - 400) : (dicells (limBad 0 n))[j * 3]? = some (.int .i64 ((402 + j : Nat) : Int)) ∧ (dicells (limBad 0 n))[j * 3 + 1]? = some (.int .i64 1) ∧ (dicells (limBad 0 n))[j * 3 + 2]? = some (.int .i64 3) := by
  have : (n = 401 ∧ j = 0) ∨ (n = 402 ∧ j = 0) ∨ (n = 402 ∧ j = 1) := by omega
  rcases this with ⟨rfl, rfl⟩ | ⟨rfl, rfl⟩ | ⟨rfl, rfl⟩
  · exact ⟨by kernel_rfl, by kernel_rfl, by kernel_rfl⟩
  · exact ⟨by kernel_rfl, by kernel_rfl, by kernel_rfl⟩
  · exact ⟨by kernel_rfl, by kernel_rfl, by kernel_rfl⟩
theorem lim_line (k : Nat) : bl ((⟨#[87, 65, 89, 80, 79, 73, 78, 84, 32, 65]⟩ : ByteArray) ++ ⟨#[UInt8.ofNat (65 + k / 26), UInt8.ofNat (65 + k % 26)]⟩ ++ ⟨#[32, 75, 49, 32, 78, 52, 54, 48, 48, 48, 48, 48, 48, 87, 49, 50, 48, 48, 48, 48, 48, 48, 48, 10]⟩) = unW (wpW k) ++ [10] := by
  rw [bl_append, bl_append]; rfl
theorem lim_conv (wr : World) (A B : Nat) : (convert 42 9 (.slice (some ⟨wr.heap.size, 0, none⟩) 2 2)).run Tryz.prog (wr.alloc (.cells #[.int .u8 (A : Int), .int .u8 (B : Int)] 5)) = .ok (.string ⟨#[UInt8.ofNat A, UInt8.ofNat B]⟩) (wr.alloc (.cells #[.int .u8 (A : Int), .int .u8 (B : Int)] 5)) := by
  have hx := Bx.last wr #[.int .u8 (A : Int), .int .u8 (B : Int)] 5
  obtain ⟨w1, hw1⟩ : ∃ W, wr.alloc (.cells #[.int .u8 (A : Int), .int .u8 (B : Int)] 5) = W := ⟨_, rfl⟩
  rw [hw1] at hx ⊢
  refine (run_convert_bytes_string w1 _ _ _ _ _ _ Tryz.underlying42 Tryz.underlying5 Tryz.underlying9).trans ?_
  have hl := run_loadCells_list (P := Tryz.prog) (w := w1) ⟨wr.heap.size, 0, none⟩ [.int .u8 (A : Int), .int .u8 (B : Int)] (fun j v hv => by
    have hadd : (⟨wr.heap.size, 0, none⟩ : Addr).add j = ⟨wr.heap.size, j, none⟩ := by unfold Addr.add; split <;> simp_all
    rw [hadd]; exact hx.cell j (by simpa using hv))
  rw [run_bytesToString w1 _ 2 2 [(A : Int), (B : Int)] hl]; rfl
theorem isBld_below2 {T e : TypeId} {B b : Nat} {bs : List Value} {w w' : World} (h : Lib.IsBuilder T e B b bs w) (hb : Below w.heap.size w w') : Lib.IsBuilder T e B b bs w' := isBld_below h hb
set_option maxRecDepth 100000 in
set_option maxHeartbeats 8000000 in
theorem navdbLimits_walk (x : Nat) (hx : x < 256) (w : World) (E : Env w) :
    Calls Tryz.prog 4 #[.int .u8 (x : Int)] w fun e w' => e = .returned (.bool true) ∧ Below w.heap.size w w' := by
  obtain ⟨n, hn⟩ : ∃ n, 398 + x % 5 = n := ⟨_, rfl⟩
  have hn1 : (398 : Int) + (x : Int) % 5 = (n : Int) := by omega
  have hn2 : 398 ≤ n ∧ n ≤ 402 := by omega
  have hx0 : (0 : Int) ≤ (x : Int) := by omega
  have hx1 : (x : Int) < 256 := by omega
  clear hn
  have hz : limT 0 = bl exS := limT_zero
  unfold exS at hz
  dsimp only at hz
  go_enter Tryz.func4, Tryz.ntmps4
  go_wp2_with fail
  refine (awake18_any _ E).mono ?_
  rintro e w1 ⟨rfl, hb1⟩
  have B1 := Lib.hid hb1
  obtain ⟨b, hbq⟩ : ∃ b, w1.heap.size = b := ⟨_, rfl⟩
  obtain ⟨w2, hw2⟩ : ∃ W, w1.alloc (.cells #[.pointer none, .slice none 0 0] 44) = W := ⟨_, rfl⟩
  have S2 : Hid (Lib.IsBuilder 44 5 b b (Lib.byteCells []) w2) := by
    unfold Hid; rw [← hbq, ← hw2]; exact Lib.fresh_isBuilder _ _ w1
  have hb2 : Below w1.heap.size w1 w2 := by rw [← hw2]; exact (Below.refl _ _).alloc (Nat.le_refl _) _
  have B2 := Lib.hid (Below.then_ B1.out hb2)
  have L2 : Hid (w.heap.size ≤ b ∧ b ≤ w2.heap.size) := ⟨by rw [← hbq]; exact B1.out.size, by rw [← hbq]; exact hb2.size⟩
  have HW2 := Lib.hid hw2
  have HBQ := Lib.hid hbq
  clear hb1 hb2 hw2 hbq
  go_upto_region 5 with fail
  rw [HW2.out, HBQ.out]
  go_wp2_with fail
  refine (Tryz.Builder_WriteString b b _ _ _ S2.out (by decide) L2.out.2).mono ?_
  rintro e w3 ⟨rfl, hs3, hb3⟩
  have S3 : Hid (Lib.IsBuilder 44 5 b b (Lib.byteCells (limT 0)) w3) := by
    unfold Hid; rw [hz]; exact .inr hs3
  have B3 := Lib.hid (B2.out.trans (hb3.mono L2.out.1))
  have L3 : Hid (w.heap.size ≤ b ∧ b ≤ w3.heap.size) := ⟨L2.out.1, Nat.le_trans L2.out.2 hb3.size⟩
  clear hs3 hb3 hz HW2 HBQ S2 B2 L2 B1
  go_wp2_with fail
  go_loopw [18] (fun iv wr => ∃ k : Nat, k ≤ n ∧ iv = .int .i64 (k : Int) ∧ Hid (Lib.IsBuilder 44 5 b b (Lib.byteCells (limT k)) wr) ∧ Hid (Below w.heap.size w wr) ∧ Hid (b ≤ wr.heap.size)) (fun iv _ => n - (intOf iv).toNat)
  case atStart => exact ⟨0, Nat.zero_le _, rfl, S3.out, B3.out, L3.out.2⟩
  case round =>
    obtain ⟨k, hk, rfl, hbd, hbr, hbs⟩ := hrel
    by_cases hlt : k < n
    · obtain ⟨A, hA⟩ : ∃ A, 65 + k / 26 = A := ⟨_, rfl⟩
      obtain ⟨B, hB⟩ : ∃ B, 65 + k % 26 = B := ⟨_, rfl⟩
      have hA1 : (65 : Int) + (k : Int) / 26 = (A : Int) := by omega
      have hB1 : (65 : Int) + (k : Int) % 26 = (B : Int) := by omega
      have hA2 : (A : Int) < 256 := by omega
      have hB2 : (B : Int) < 256 := by omega
      have hA3 : IntKind.u8.wrap (A : Int) = (A : Int) := IntWalk.u8_in _ (by omega)
      have hB3 : IntKind.u8.wrap (B : Int) = (B : Int) := IntWalk.u8_in _ (by omega)
      have hk0 : (0 : Int) ≤ (k : Int) := by omega
      have hk1 : (k : Int) < (n : Int) := by omega
      have hk2 : (k : Int) ≤ 402 := by omega
      have HL := Lib.hid (lim_line k)
      rw [hA, hB] at HL
      have hll := (wpW_ok (k := k) (by omega)).len
      clear hA hB
      have hcv := lim_conv wr A B
      go_wp2_with fail
      refine (Tryz.Builder_WriteString b b _ _ _ (isBld_below hbd.out ((Below.refl _ _).alloc (Nat.le_refl _) _)) ?hz (by rw [World.size_alloc]; exact Nat.le_succ_of_le hbs.out)).mono ?_
      case hz =>
        have h1 := limT_len (n := k) (by omega)
        rw [bytes_len, ← bl_len, HL.out, List.length_append, List.length_cons, List.length_nil]
        omega
      rintro e w4 ⟨rfl, hs4, hb4⟩
      rw [bytes_str, HL.out, ← byteCells_app, ← limT_succ] at hs4
      have S4 := Lib.hid hs4
      have B4 := Lib.hid ((hbr.out.alloc hbr.out.size _).trans (hb4.mono L3.out.1))
      have L4 : Hid (b ≤ w4.heap.size) := Nat.le_trans (by rw [World.size_alloc]; exact Nat.le_succ_of_le hbs.out) hb4.size
      clear hs4 hb4 hbd hbr hbs hcv
      go_wp2
      go_roundw
      case rel => exact ⟨k + 1, hlt, by go_num, .inr S4.out, B4.out, L4.out⟩
      case measure => simp [intOf]; omega
    · have hkn : k = n := by omega
      subst hkn
      go_wp2_with fail
      refine (Tryz.Builder_String_any b b (limT k) wr hbd.out hbs.out).mono ?_
      rintro e w5 ⟨rfl, hb5⟩
      have B5 := Lib.hid (hbr.out.trans (hb5.mono L3.out.1))
      clear hb5 hbd hbr hbs
      have HLT := Lib.hid (fun W hW => compile_lim k hn2.2 ⟨(limT k).toArray⟩ rfl W hW)
      obtain ⟨T, hT⟩ : ∃ T, limT k = T := ⟨_, rfl⟩
      rw [hT] at HLT
      rw [hT]
      clear hT S3 B3
      go_wp2_with fail
      refine (HLT.out _ (E.below B5.out)).mono ?_
      rintro e w6 h
      clear HLT
      rcases h with ⟨h4, A, c, rfl, hf, hb⟩ | ⟨h4, A, c, rfl, hr, hb⟩
      · have h4i : (k : Int) ≤ 400 := by omega
        obtain ⟨q, hq⟩ : ∃ q, w6.heap.size = q := ⟨_, rfl⟩
        obtain ⟨w7, hw7⟩ : ∃ W, w6.alloc (.cells (dbH (.slice A k c)) 31) = W := ⟨_, rfl⟩
        have hb7 : Below w6.heap.size w6 w7 := by rw [← hw7]; exact (Below.refl _ _).alloc (Nat.le_refl _) _
        have X7 : Hid (Bx q (dbH (.slice A k c)) 31 w7) := by rw [← hw7, ← hq]; exact Bx.last w6 _ _
        have B7 := Lib.hid (Below.then_ (Below.then_ B5.out hb) hb7)
        have F7 := Lib.hid (hf.below hb7)
        have HCK := Lib.hid (ncheck_ex _ _ _ F7.out (lim_good h4))
        unfold dbH at hw7 HCK
        have HW7 := Lib.hid hw7
        have HQ := Lib.hid hq
        obtain ⟨⟨x0, x1, x2, x3, x4, x5, x6, x7, x8⟩, _⟩ := Bx.cells9 X7.out
        have xl := Bx.lt X7.out
        clear hf hb hb7 hw7 hq B5
        unfold dbH
        go_upto_region 12 with fail
        rw [HW7.out, HQ.out]
        clear HW7 HQ
        go_wp2_with fail
        refine HCK.out.mono ?_
        rintro e w8 ⟨rfl, hb8⟩
        have B8 := Lib.hid (Below.then_ B7.out hb8)
        clear x0 x1 x2 x3 x4 x5 x6 x7 x8 xl hb8 HCK F7 X7 B7
        go_wp2
        go_ret
        exact ⟨rfl, B8.out⟩
      · have hcl := Lib.hid (fun j hj => lim_cell (n := k) (j := j) h4 hn2.2 hj)
        obtain ⟨m, hm⟩ : ∃ m, k - 400 = m := ⟨_, rfl⟩
        have hkm : (k : Int) - 400 = (m : Int) := by omega
        have h4i : ¬ (k : Int) ≤ 400 := by omega
        have hm2 : m ≤ 2 := by omega
        rw [hm] at hr hcl ⊢
        clear hm
        obtain ⟨q, hq⟩ : ∃ q, w6.heap.size = q := ⟨_, rfl⟩
        obtain ⟨w7, hw7⟩ : ∃ W, w6.alloc (.cells dbZ 31) = W := ⟨_, rfl⟩
        have hb7 : Below w6.heap.size w6 w7 := by rw [← hw7]; exact (Below.refl _ _).alloc (Nat.le_refl _) _
        have X7 : Hid (Bx q dbZ 31 w7) := by rw [← hw7, ← hq]; exact Bx.last w6 _ _
        have B7 := Lib.hid (Below.then_ (Below.then_ B5.out hb) hb7)
        have R7 := Lib.hid (hr.below hb7)
        unfold dbZ at hw7
        have HW7 := Lib.hid hw7
        have HQ := Lib.hid hq
        obtain ⟨⟨x0, x1, x2, x3, x4, x5, x6, x7, x8⟩, _⟩ := Bx.cells9 X7.out
        have xl := Bx.lt X7.out
        clear hr hb hb7 hw7 hq B5
        unfold dbZ
        go_upto_region 12 with fail
        rw [HW7.out, HQ.out]
        clear HW7 HQ
        go_wp2_with fail
        go_loopw [70] (fun iv wx => ∃ j : Nat, j ≤ m ∧ iv = .int .i64 (j : Int) ∧ Hid (Below w.heap.size w wx) ∧ Hid (Rd wx 3 (.slice A m c) m (dicells (limBad 0 k)))) (fun iv _ => m - (intOf iv).toNat)
        case atStart => exact ⟨0, Nat.zero_le _, rfl, B7.out, R7.out⟩
        case round =>
          clear x0 x1 x2 x3 x4 x5 x6 x7 x8 xl
          obtain ⟨j, hj, rfl, hbx, hrx⟩ := hrel
          by_cases hjm : j < m
          · obtain ⟨z0, z1, z2⟩ := hcl.out j hjm
            have hrx2 := hrx.out
            obtain ⟨_, A2, c2, hv, hc2, hm2', hx2⟩ := hrx2
            obtain ⟨g, o, hA2, hg, hcell⟩ := hx2 (by omega)
            simp only [Value.slice.injEq, true_and] at hv
            obtain ⟨rfl, rfl⟩ := hv
            subst hA2
            have d0 := hcell _ _ z0
            have d1 := hcell _ _ z1
            have d2 := hcell _ _ z2
            rw [← Nat.add_assoc] at d1 d2
            obtain ⟨D, hD⟩ : ∃ D, 402 + j = D := ⟨_, rfl⟩
            have hD1 : (402 : Int) + (j : Int) = (D : Int) := by omega
            rw [hD] at d0
            have hj0 : (j : Int) < (m : Int) := by omega
            have hbn := Lib.hid (hbx.out.alloc hbx.out.size (.cells #[.int .i64 (D : Int), .int .i64 1, .int .i64 3] 39))
            have hrn := Lib.hid (hrx.out.below ((Below.refl _ _).alloc (Nat.le_refl _) (.cells #[.int .i64 (D : Int), .int .i64 1, .int .i64 3] 39)))
            clear z0 z1 z2 hx2 hcell hD hbx hrx
            go_wp2
            go_roundw
            case rel => exact ⟨j + 1, hjm, by go_num, hbn.out, hrn.out⟩
            case measure => simp [intOf]; omega
          · have hj0 : ¬ (j : Int) < (m : Int) := by omega
            go_wp2
            go_ret
            exact ⟨rfl, hbx.out⟩
end Go.Proofs.YtakgcdefbbgdaaaGreatDoor
