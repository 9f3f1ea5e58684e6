/-
  Several texts as one.
  Contracts: Compile at the two texts that open the laws of databases.
  Plain laws: a source of many waypoints: its reading, its rounds, its diagnostics.
  Contract: the opening check of the laws of databases: true.
-/
import Derived.Test.YtakgcdefbbgdaaaGreatDoorNvK
import Derived.Test.YtakgcdefbbgdaaaGreatDoorMG27
import Derived.Test.YtakgcdefbbgdaaaGreatDoorNvG
import Derived.Test.YtakgcdefbbgdaaaGreatDoorMG29
namespace Go.Proofs.YtakgcdefbbgdaaaGreatDoor
open Go.RowKit Go.Lib Go.Sort
set_option linter.unusedVariables false
set_option linter.unusedSimpArgs false
def hdrWs : List (List UInt8) := [[68, 65, 84, 65, 66, 65, 83, 69], [87, 69, 83, 84], cyc26, pos46]
def air1 : List (List UInt8) := [[65, 73, 82, 87, 65, 89], [86, 49]]
def air2 : List (List UInt8) := [[86, 73, 65], [65, 47, 75, 49], [53, 48, 48, 48, 43], [66, 79, 84, 72]]
def air3 : List (List UInt8) := [[86, 73, 65], [66, 47, 75, 49]]
def exS : ByteArray := ⟨#[68, 65, 84, 65, 66, 65, 83, 69, 32, 87, 69, 83, 84, 32, 50, 54, 49, 50, 32, 78, 52, 54, 48, 48, 48, 48, 48, 48, 87, 49, 50, 48, 48, 48, 48, 48, 48, 48, 10]⟩
def exA : ByteArray := ⟨#[65, 73, 82, 87, 65, 89, 32, 86, 49, 10, 86, 73, 65, 32, 65, 47, 75, 49, 32, 53, 48, 48, 48, 43, 32, 66, 79, 84, 72, 10, 86, 73, 65, 32, 66, 47, 75, 49, 10]⟩
theorem hdr_ok : WsOk hdrWs := ⟨by decide, by decide +kernel, by decide +kernel⟩
theorem air1_ok : WsOk air1 := ⟨by decide, by decide +kernel, by decide +kernel⟩
theorem air2_ok : WsOk air2 := ⟨by decide, by decide +kernel, by decide +kernel⟩
theorem air3_ok : WsOk air3 := ⟨by decide, by decide +kernel, by decide +kernel⟩
theorem exS_join : bl exS = joinW [hdrWs] := by decide +kernel
theorem exA_join : bl (exS ++ exA) = joinW [hdrWs, air1, air2, air3] := by decide +kernel
theorem hdr_ln : ∀ n : Nat, lnOf (1, colsW 0 hdrWs) = ((1, hdF) : Ln) := fun _ => by decide +kernel
def rest2 : List Ln := [lnOf (2, colsW 0 air1), lnOf (3, colsW 0 air2), lnOf (4, colsW 0 air3)]
theorem exS_recs : (readRecs (bl exS)).map lnOf = (1, hdF) :: [] ∧ readDgs (bl exS) = [] := by
  have h := read_joinW (W := [hdrWs]) (fun ws h => by simp at h; subst h; exact hdr_ok) (by decide)
  rw [exS_join, h.1]
  exact ⟨by show [lnOf (1, colsW 0 hdrWs)] = _; rw [hdr_ln 0], h.2⟩
theorem exA_recs : (readRecs (bl (exS ++ exA))).map lnOf = (1, hdF) :: rest2 ∧ readDgs (bl (exS ++ exA)) = [] := by
  have h := read_joinW (W := [hdrWs, air1, air2, air3]) (fun ws h => by simp at h; rcases h with rfl | rfl | rfl | rfl; exact hdr_ok; exact air1_ok; exact air2_ok; exact air3_ok) (by decide)
  rw [exA_join, h.1]
  exact ⟨by show lnOf (1, colsW 0 hdrWs) :: rest2 = _; rw [hdr_ln 0], h.2⟩
theorem rest2_ok : SecOk cp0.head rest2 :=
  ⟨.air (by decide +kernel) (by decide +kernel), .via (by decide +kernel) (by decide +kernel), .via (by decide +kernel) (by decide +kernel), trivial⟩
theorem rest2_all : (secGo cp0.head rest2).all = [takeEl (lnOf (2, colsW 0 air1)) (viasL [lnOf (3, colsW 0 air2), lnOf (4, colsW 0 air3)])] := by
  unfold rest2
  rw [secGo, step_air (by decide +kernel), secGo, step_via (by decide +kernel), secGo, step_via (by decide +kernel), secGo]
  rfl
theorem rest2_el : ElOk (takeEl (lnOf (2, colsW 0 air1)) (viasL [lnOf (3, colsW 0 air2), lnOf (4, colsW 0 air3)])) :=
  ⟨.inr rfl, fun h => absurd h (by decide), by decide +kernel, by decide +kernel, by decide +kernel⟩
theorem rest2_bad : (thGo (fixesOf (secGo cp0.head rest2).all) 0 0 [] [] (secGo cp0.head rest2) (secGo cp0.head rest2).all).bad = [(3, 1, 6), (4, 1, 6)] := by decide +kernel
theorem compile_hdr (w : World) (E : Env w) :
    Calls Tryz.prog 6 #[.string exS] w fun e w' => ∃ v, e = .returned (.tuple #[.agg (dbH v), .slice none 0 0]) ∧ FxsR w' v [] ∧ Below w.heap.size w w' := by
  refine (compile_any exS w E [] (by decide +kernel) exS_recs.1 exS_recs.2 (by decide) trivial (fun p h => by cases h) (fun _ p h => by cases h)).mono ?_
  rintro e w' (⟨h, _⟩ | ⟨h, v, L, D, rfl, hL, hs, hf, hb⟩)
  · exact absurd rfl h
  · refine ⟨v, rfl, ?_, hb⟩
    have hl0 : L.length = 0 := by
      have := congrArg List.length hL
      rw [List.length_map] at this
      exact this
    have hd0 : D = [] := List.eq_nil_of_length_eq_zero (by rw [hs.len, hl0])
    rw [hd0] at hf
    exact hf
theorem compile_air (w : World) (E : Env w) :
    Calls Tryz.prog 6 #[.string (exS ++ exA)] w fun e w' => ∃ v, e = .returned (.tuple #[.agg dbZ, v]) ∧ Rd w' 3 v 2 [.int .i64 3, .int .i64 1, .int .i64 6, .int .i64 4, .int .i64 1, .int .i64 6] ∧ Below w.heap.size w w' := by
  refine (compile_any (exS ++ exA) w E rest2 (by decide +kernel) exA_recs.1 exA_recs.2 (by decide) rest2_ok (fun p h => by rw [rest2_all] at h; simp at h; subst h; exact rest2_el) (fun h => by rw [rest2_bad] at h; cases h)).mono ?_
  rw [show CompPost _ w = _ from rfl]
  rintro e w' (⟨h, v, rfl, hr, hb⟩ | ⟨h, _⟩)
  · rw [rest2_bad] at hr
    exact ⟨v, rfl, hr, hb⟩
  · rw [rest2_bad] at h; cases h
end Go.Proofs.YtakgcdefbbgdaaaGreatDoor
namespace Go.Proofs.YtakgcdefbbgdaaaGreatDoor
open Go.RowKit Go.Lib Go.Sort
set_option linter.unusedVariables false
set_option linter.unusedSimpArgs false
def limId (i : Nat) : List UInt8 := [65, UInt8.ofNat (65 + i / 26), UInt8.ofNat (65 + i % 26)]
def wpW (i : Nat) : List (List UInt8) := [[87, 65, 89, 80, 79, 73, 78, 84], limId i, [75, 49], pos46]
def limFx (i : Nat) : Fx := ⟨limId i, [75, 49], 1, 16560000, -43200000, 0, 0⟩
def lnK (k : Nat) : Ln := lnOf (k + 2, colsW 0 (wpW k))
def limEl (k : Nat) : El := ⟨102, lnK k, limFx k, [], [], []⟩
def fxEq (a b : Fx) : Bool := decide (a.id = b.id) && decide (a.rg = b.rg) && decide (a.kd = b.kd) && decide (a.lat = b.lat) && decide (a.lon = b.lon) && decide (a.el = b.el) && decide (a.ra = b.ra)
theorem fxEq_eq {a b : Fx} (h : fxEq a b = true) : a = b := by
  unfold fxEq at h
  simp only [Bool.and_eq_true, decide_eq_true_eq] at h
  obtain ⟨⟨⟨⟨⟨⟨h1, h2⟩, h3⟩, h4⟩, h5⟩, h6⟩, h7⟩ := h
  cases a; cases b; simp_all
def lim1 (k : Nat) : Bool := (wpW k).all (fun w => !w.isEmpty && w.all tokB) && decide ((unW (wpW k)).length ≤ 200)
def lim2 (k : Nat) : Bool := decide ((fld (lnK k).2 0).1 = wWp) && decide ((fld (lnK k).2 0).2 = 1) && !(tk6 (scan0 (lnK k).1 (lnK k).2)).endB && fxEq (tkOut (scan0 (lnK k).1 (lnK k).2)) (limFx k)
def lim3 (k : Nat) : Bool := decide (fixE (limFx k) = 0) && decide (fxRef (limFx k) < fxRef (limFx (k + 1)))
theorem lim1_ok : (List.range 402).all lim1 = true := by decide +kernel
theorem lim2_ok : (List.range 402).all lim2 = true := by decide +kernel
theorem lim3_ok : (List.range 402).all lim3 = true := by decide +kernel
theorem lim_all {p : Nat → Bool} (h : (List.range 402).all p = true) {k : Nat} (hk : k < 402) : p k = true := List.all_eq_true.1 h k (List.mem_range.2 hk)
theorem wpW_ok {k : Nat} (hk : k < 402) : WsOk (wpW k) := by
  have h := lim_all lim1_ok hk
  unfold lim1 at h
  rw [Bool.and_eq_true, decide_eq_true_eq, List.all_eq_true] at h
  refine ⟨by unfold wpW; simp, fun w hw => ?_, h.2⟩
  have h2 := h.1 w hw
  rw [Bool.and_eq_true] at h2
  refine ⟨fun e => ?_, h2.2⟩
  rw [e] at h2; simp at h2
theorem lnK_facts {k : Nat} (hk : k < 402) : (fld (lnK k).2 0).1 = wWp ∧ (fld (lnK k).2 0).2 = 1 ∧ (tk6 (scan0 (lnK k).1 (lnK k).2)).endB = false ∧ tkOut (scan0 (lnK k).1 (lnK k).2) = limFx k := by
  have h := lim_all lim2_ok hk
  unfold lim2 at h
  simp only [Bool.and_eq_true, decide_eq_true_eq, Bool.not_eq_true'] at h
  exact ⟨h.1.1.1, h.1.1.2, h.1.2, fxEq_eq h.2⟩
theorem lnK_fix {k : Nat} (hk : k < 402) : fixEl (lnK k) = limEl k := by
  unfold fixEl limEl; rw [(lnK_facts hk).2.2.2]
theorem lim_ck {k : Nat} (hk : k < 402) : fixE (limFx k) = 0 ∧ fxRef (limFx k) < fxRef (limFx (k + 1)) := by
  have h := lim_all lim3_ok hk
  unfold lim3 at h
  simpa only [Bool.and_eq_true, decide_eq_true_eq] using h
theorem lim_lt {i : Nat} : ∀ {j : Nat}, i < j → j ≤ 402 → fxRef (limFx i) < fxRef (limFx j)
  | 0, h, _ => absurd h (by omega)
  | j + 1, h, hj => by
    rcases Nat.lt_or_ge i j with h1 | h1
    · exact List.lt_trans (lim_lt h1 (by omega)) (lim_ck (by omega)).2
    · have : i = j := by omega
      subst this
      exact (lim_ck (by omega)).2
theorem lim_rec : ∀ (m a : Nat), (numW (a + 2) ((List.range' a m).map wpW)).map lnOf = (List.range' a m).map lnK
  | 0, _ => rfl
  | m + 1, a => by
    rw [List.range'_succ, List.map_cons, List.map_cons]
    show lnOf (a + 2, colsW 0 (wpW a)) :: (numW (a + 2 + 1) ((List.range' (a + 1) m).map wpW)).map lnOf = _
    have := lim_rec m (a + 1)
    rw [show a + 2 + 1 = a + 1 + 2 by omega, this]; rfl
theorem lim_sec : ∀ (m a : Nat) (s : Cp), a + m ≤ 402 → SecOk s ((List.range' a m).map lnK)
  | 0, _, _, _ => trivial
  | m + 1, a, s, h => by
    rw [List.range'_succ, List.map_cons]
    exact ⟨.wp (lnK_facts (by omega)).1 (lnK_facts (by omega)).2.2.1, lim_sec m (a + 1) _ (by omega)⟩
theorem lim_go : ∀ (m a : Nat) (s : Cp), a + m ≤ 402 → s.aw = false → s.pr = false → s.pt = false → secGo s ((List.range' a m).map lnK) = { s with all := s.all ++ (List.range' a m).map limEl }
  | 0, a, s, _, _, _, _ => by
    show s = { s with all := s.all ++ [] }
    rw [List.append_nil]
  | m + 1, a, s, h, h1, h2, h3 => by
    rw [List.range'_succ, List.map_cons, List.map_cons, secGo, step_wp (lnK_facts (by omega)).1, lnK_fix (by omega), lim_go m (a + 1) _ (by omega) rfl rfl rfl]
    unfold Cp.off
    cases s
    simp only at h1 h2 h3
    subst h1 h2 h3
    simp
def limBad (a m : Nat) : List DgI := ((List.range' a m).filter fun k => decide (400 ≤ k)).map fun k => (((k + 2 : Nat) : Int), 1, 3)
theorem lim_thE {k : Nat} (hk : k < 402) : thE (k + 1) (limFx k) ((List.range' 0 k).map limFx) = if 400 ≤ k then 3 else 0 := by
  unfold thE
  by_cases h : 400 ≤ k
  · rw [if_pos (by omega), if_pos h]
  · rw [if_neg (by omega), if_neg h, if_neg]
    intro hm
    rw [List.map_map, List.mem_map] at hm
    obtain ⟨j, hj, he⟩ := hm
    rw [List.mem_range'_1] at hj
    have := lim_lt (i := j) (j := k) (by omega) (by omega)
    rw [show fxRef (limFx j) = fxRef (limFx k) from he] at this
    exact absurd this (List.lt_irrefl _)
theorem lim_th (all : List Fx) (na : Nat) (ns : List (List UInt8)) : ∀ (m a : Nat) (s : Cp), a + m ≤ 402 → thGo all a na ((List.range' 0 a).map limFx) ns s ((List.range' a m).map limEl) = { s with bad := s.bad ++ limBad a m }
  | 0, a, s, _ => by
    show s = { s with bad := s.bad ++ [] }
    rw [List.append_nil]
  | m + 1, a, s, h => by
    rw [List.range'_succ, List.map_cons]
    show (if (102 : Nat) = 102 then thGo all (a + 1) na ((List.range' 0 a).map limFx ++ [limFx a]) ns (s.fail (lnK a) (thE (a + 1) (limFx a) ((List.range' 0 a).map limFx))) ((List.range' (a + 1) m).map limEl) else _) = _
    have e : (List.range' 0 a).map limFx ++ [limFx a] = (List.range' 0 (a + 1)).map limFx := by
      rw [List.range'_1_concat, List.map_append, Nat.zero_add]; rfl
    rw [if_pos rfl, e, lim_th all na ns m (a + 1) _ (by omega), lim_thE (by omega)]
    unfold Cp.fail limBad
    rw [List.range'_succ, List.filter_cons]
    by_cases h4 : 400 ≤ a
    · rw [if_pos h4, if_neg (by decide), if_pos (decide_eq_true h4), (lnK_facts (by omega)).2.1, List.map_cons, List.append_assoc]; rfl
    · rw [if_neg h4, if_pos rfl, if_neg (by simpa using h4)]
theorem limEl_ok (k : Nat) : ElOk (limEl k) :=
  ⟨.inl rfl, fun _ => ⟨rfl, rfl, (by decide : (1 : Nat) ≠ 5), (by decide : (1 : Nat) ≠ 6), (by decide : (1 : Nat) < 256)⟩, Nat.le_refl _, fun v h => (by cases h), Nat.zero_le _⟩
theorem lim_fixes (n : Nat) : fixesOf ((List.range' 0 n).map limEl) = (List.range' 0 n).map limFx := by
  unfold fixesOf
  rw [List.filter_eq_self.2 (fun p hp => by
    obtain ⟨k, _, rfl⟩ := List.mem_map.1 hp
    rfl), List.map_map]
  rfl
theorem lim_good {n : Nat} (hn : n ≤ 400) : FxGood ((List.range' 0 n).map limFx) where
  ck := by
    intro f h; obtain ⟨k, hk, rfl⟩ := List.mem_map.1 h
    rw [List.mem_range'_1] at hk
    exact (lim_ck (by omega)).1
  at_ := by
    intro f h; obtain ⟨k, hk, rfl⟩ := List.mem_map.1 h
    exact (limEl_ok k).fx rfl
  sz := by
    intro f h; obtain ⟨k, hk, rfl⟩ := List.mem_map.1 h
    exact ⟨by show 3 ≤ _; omega, by show 2 ≤ _; omega⟩
  up := by
    intro k h
    rw [List.length_map, List.length_range'] at h
    rw [List.getElem_map, List.getElem_map, List.getElem_range', List.getElem_range']
    simp only [Nat.zero_add, Nat.one_mul]
    exact lim_lt (by omega) (by omega)
  le := by rw [List.length_map, List.length_range']; exact hn
theorem lim_stb {n : Nat} (hn : n ≤ 402) {L D : List FxS} (hL : L.map (·.1) = (List.range' 0 n).map limFx) (h : Stb (ltOf cfF) L D) : D.map (·.1) = (List.range' 0 n).map limFx := by
  have hs : Srt (ltOf cfF) L := by
    unfold Srt
    have hp : (L.map (·.1)).Pairwise fun a b => ¬ fxRef b < fxRef a := by
      rw [hL, List.pairwise_map]
      refine List.Pairwise.imp_of_mem (R := fun a b => a < b) ?_ List.pairwise_lt_range'
      intro a b ha hb hab
      rw [List.mem_range'_1] at ha hb
      exact fun hc => absurd (List.lt_trans hc (lim_lt hab (by omega))) (List.lt_irrefl _)
    rw [List.pairwise_map] at hp
    refine hp.imp ?_
    intro a b hab
    rw [ltOfF, decide_eq_false_iff_not]
    exact hab
  have e : D = L := h.uniq swoF ⟨rfl, hs, Sam.refl _ _⟩
  rw [e]; exact hL
/-- the source of so many waypoints -/
def limT (n : Nat) : List UInt8 := joinW (hdrWs :: (List.range' 0 n).map wpW)
theorem limT_read {n : Nat} (hn : n ≤ 402) : (readRecs (limT n)).map lnOf = (1, hdF) :: (List.range' 0 n).map lnK ∧ readDgs (limT n) = [] := by
  have h := read_joinW (W := hdrWs :: (List.range' 0 n).map wpW) (fun ws h => by
    rcases List.mem_cons.1 h with rfl | h
    · exact hdr_ok
    · obtain ⟨k, hk, rfl⟩ := List.mem_map.1 h
      rw [List.mem_range'_1] at hk
      exact wpW_ok (by omega)) (by rw [List.length_cons, List.length_map, List.length_range']; omega)
  unfold limT
  rw [h.1]
  refine ⟨?_, h.2⟩
  show lnOf (1, colsW 0 hdrWs) :: (numW (0 + 2) ((List.range' 0 n).map wpW)).map lnOf = _
  rw [hdr_ln 0, lim_rec]
theorem limT_zero : limT 0 = bl exS := exS_join.symm
theorem limT_succ (k : Nat) : limT (k + 1) = limT k ++ (unW (wpW k) ++ [10]) := by
  unfold limT
  rw [List.range'_1_concat, List.map_append, Nat.zero_add, ← List.cons_append]
  unfold joinW
  rw [List.flatMap_append]
  simp
end Go.Proofs.YtakgcdefbbgdaaaGreatDoor
namespace Go.Proofs.YtakgcdefbbgdaaaGreatDoor
open Go.RowKit Go.Lib Go.Sort
set_option linter.unusedVariables false
set_option linter.unusedSimpArgs false
theorem hdrT_eq : sb hdrT = exS := by decide +kernel
set_option maxRecDepth 100000 in
set_option maxHeartbeats 8000000 in
theorem awake18_any (w : World) (E : Env w) :
    Calls Tryz.prog 5 #[] w fun e w' => e = .returned (.bool true) ∧ Below w.heap.size w w' := by
  have hc1 := compile_hdr w E
  have hc2 := fun W h => compile_air W h
  have htx := fun v W h => ntext_ex v W h
  rw [hdrT_eq] at htx
  unfold exS exA dbZ at hc2
  unfold exS dbH at htx
  unfold exS dbH at hc1
  dsimp only at hc2 htx hc1
  have HC2 := Lib.hid hc2
  have HTX := Lib.hid htx
  clear hc2 htx
  go_enter Tryz.func5, Tryz.ntmps5
  go_wp2_with fail
  refine hc1.mono ?_
  rintro e w1 ⟨v0, rfl, hf1, hb1⟩
  clear hc1
  obtain ⟨A0, c0, rfl, -, -⟩ := hf1.form
  simp only [List.length_nil] at hf1 ⊢
  obtain ⟨w2, hw2⟩ : ∃ W, w1.alloc (.cells (dbH (.slice A0 0 c0)) 31) = W := ⟨_, rfl⟩
  have hb2 : Below w1.heap.size w1 w2 := by rw [← hw2]; exact (Below.refl _ _).alloc (Nat.le_refl _) _
  have B2 := Lib.hid (Below.then_ hb1 hb2)
  have F2 := Lib.hid (hf1.below hb2)
  obtain ⟨q, hq⟩ : ∃ q, w1.heap.size = q := ⟨_, rfl⟩
  have X2 : Hid (Bx q (dbH (.slice A0 0 c0)) 31 w2) := by rw [← hw2, ← hq]; exact Bx.last w1 _ _
  unfold dbH at hw2
  have HW2 := Lib.hid hw2
  have HQ := Lib.hid hq
  obtain ⟨⟨x0, x1, x2, x3, x4, x5, x6, x7, x8⟩, _⟩ := Bx.cells9 X2.out
  have xl := Bx.lt X2.out
  clear hb1 hb2 hf1 hw2 hq
  go_upto_region 3 with fail
  rw [HW2.out, HQ.out]
  clear HW2 HQ
  go_wp2_with fail
  refine (HTX.out _ _ F2.out).mono ?_
  rintro e w3 ⟨rfl, hb3⟩
  have B3 := Lib.hid (Below.then_ B2.out hb3)
  have X3 := Lib.hid (X2.out.via hb3)
  clear x0 x1 x2 x3 x4 x5 x6 x7 x8 xl hb3 B2 X2 F2 HTX
  go_wp2_with fail
  refine (HC2.out _ (E.below B3.out)).mono ?_
  rintro e w4 ⟨v2, rfl, hr4, hb4⟩
  have B4 := Lib.hid (Below.then_ B3.out hb4)
  have X4 := Lib.hid (X3.out.via hb4)
  clear hb4 B3 X3 HC2
  obtain ⟨w5, hw5⟩ : ∃ W, w4.alloc (.cells dbZ 31) = W := ⟨_, rfl⟩
  have hb5 : Below w4.heap.size w4 w5 := by rw [← hw5]; exact (Below.refl _ _).alloc (Nat.le_refl _) _
  have R5 := hr4.below hb5
  have B5 := Lib.hid (Below.then_ B4.out hb5)
  have X5 := Lib.hid (X4.out.via hb5)
  obtain ⟨_, A, c, rfl, hc, hm, hx⟩ := R5
  obtain ⟨g, o, rfl, hg, hcell⟩ := hx (by omega)
  have d0 := hcell 0 _ rfl
  have d1 := hcell 1 _ rfl
  have d2 := hcell 2 _ rfl
  have d3 := hcell 3 _ rfl
  have d4 := hcell 4 _ rfl
  have d5 := hcell 5 _ rfl
  rw [Nat.add_zero] at d0
  obtain ⟨⟨x0, x1, x2, x3, x4, x5, x6, x7, x8⟩, _⟩ := Bx.cells9 X5.out
  have xl := Bx.lt X5.out
  unfold dbZ at hw5
  have HW5 := Lib.hid hw5
  clear hr4 hb5 hw5 hcell hx B4 X4
  go_upto_region 5 with fail
  rw [HW5.out]
  clear HW5
  go_wp2
  go_ret
  exact ⟨rfl, B5.out⟩
end Go.Proofs.YtakgcdefbbgdaaaGreatDoor
