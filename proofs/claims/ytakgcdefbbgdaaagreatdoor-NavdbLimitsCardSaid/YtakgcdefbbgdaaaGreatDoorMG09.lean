/-
  Several texts as one.
  Contracts: the errors of identifiers, regions and fixes, on both sides.
  Contracts: the first error of a fix, on both sides.
  Contracts: a scanner at the first field of a record; both sides.
  The fix of a record: what both sides take of it, and the memory that they take it in.
-/
import Derived.Test.YtakgcdefbbgdaaaGreatDoorFixR
import Derived.Test.YtakgcdefbbgdaaaGreatDoorMG12
import Derived.Deep.RegionHeld3
namespace Go.Proofs.YtakgcdefbbgdaaaGreatDoor
open Go.RowKit
set_option linter.unusedVariables false
set_option linter.unusedSimpArgs false

theorem navaid_any (k : Nat) (w : World) : Calls Tryz.prog 75 #[.int .u8 (k : Int)] w fun e w' => e = .returned (.bool (navB k)) ∧ w = w' := by
  have hk : k = 2 ∨ k = 3 ∨ k = 4 ∨ (k ≠ 2 ∧ k ≠ 3 ∧ k ≠ 4) := by omega
  rcases hk with rfl | rfl | rfl | ⟨h2, h3, h4⟩
  case inr.inr.inr =>
    have e2 : ((k : Int) == 2) = false := beq_eq_false_iff_ne.2 (by omega)
    have e3 : ((k : Int) == 3) = false := beq_eq_false_iff_ne.2 (by omega)
    have e4 : ((k : Int) == 4) = false := beq_eq_false_iff_ne.2 (by omega)
    have HN : Hid (navB k = false) := by unfold Hid navB; rw [decide_eq_false h2, decide_eq_false h3, decide_eq_false h4]; rfl
    clear h2 h3 h4
    go_enter Tryz.func75, Tryz.ntmps75
    go_wp2
    go_ret
    exact ⟨ret_bool HN.out.symm, rfl⟩
  all_goals
    go_enter Tryz.func75, Tryz.ntmps75
    go_wp2
    go_ret
    exact ⟨rfl, rfl⟩
theorem elevated_any (k : Nat) (w : World) : Calls Tryz.prog 74 #[.int .u8 (k : Int)] w fun e w' => e = .returned (.bool (elevB k)) ∧ w = w' := by
  have hk : k = 5 ∨ k = 6 ∨ (k ≠ 5 ∧ k ≠ 6) := by omega
  rcases hk with rfl | rfl | ⟨h2, h3⟩
  case inr.inr =>
    have e2 : ((k : Int) == 5) = false := beq_eq_false_iff_ne.2 (by omega)
    have e3 : ((k : Int) == 6) = false := beq_eq_false_iff_ne.2 (by omega)
    have HN : Hid (elevB k = false) := by unfold Hid elevB; rw [decide_eq_false h2, decide_eq_false h3]; rfl
    clear h2 h3
    go_enter Tryz.func74, Tryz.ntmps74
    go_wp2
    go_ret
    exact ⟨ret_bool HN.out.symm, rfl⟩
  all_goals
    go_enter Tryz.func74, Tryz.ntmps74
    go_wp2
    go_ret
    exact ⟨rfl, rfl⟩
def EPost (er : Int) (w : World) (e : Ending) (w' : World) : Prop := e = .returned (.int .i64 er) ∧ Drawn w w'
theorem EPost.mk {er x : Int} {w w' : World} (h : er = x) (hd : Drawn w w') : EPost er w (.returned (.int .i64 x)) w' := by subst h; exact ⟨rfl, hd⟩
theorem identE_ways (l : List UInt8) (k : Nat) : (nameB l 6 = false ∧ Hid (identE l k = 5)) ∨ (nameB l 6 = true ∧ ((k ≠ 6 ∧ Hid (identE l k = 0)) ∨ (k = 6 ∧ ((rwyB l = true ∧ Hid (identE l k = 0)) ∨ (rwyB l = false ∧ Hid (identE l k = 5)))))) := by
  unfold identE Hid
  by_cases h6 : k = 6
  · subst h6; cases nameB l 6 <;> cases rwyB l <;> simp
  · have : (k != 6) = true := bne_iff_ne.2 h6
    rw [this]; cases nameB l 6 <;> simp [h6]
theorem locE_ways (l : List UInt8) (k : Nat) : (k = 6 ∧ ((nameB l 6 = true ∧ Hid (locE l k = 0)) ∨ (nameB l 6 = false ∧ Hid (locE l k = 5)))) ∨ (k ≠ 6 ∧ ((shortB l = true ∧ Hid (locE l k = 0)) ∨ (shortB l = false ∧ Hid (locE l k = 5)))) := by
  unfold locE Hid
  by_cases h6 : k = 6
  · subst h6; cases nameB l 6 <;> simp
  · have h1 : (k != 6) = true := bne_iff_ne.2 h6
    have h2 : (k == 6) = false := beq_eq_false_iff_ne.2 h6
    rw [h1, h2]; cases shortB l <;> simp [h6]
set_option maxHeartbeats 1000000 in
theorem identified_any (s : ByteArray) (k : Nat) (w : World) (hs : s.size ≤ maxLen) : Calls Tryz.prog 71 #[.string s, .int .u8 (k : Int)] w (EPost (identE (bl s) k) w) := by
  rcases identE_ways (bl s) k with ⟨h1, hr⟩ | ⟨h1, ⟨h6, hr⟩ | ⟨rfl, ⟨h2, hr⟩ | ⟨h2, hr⟩⟩⟩
  · have H1 := Lib.hid h1
    clear h1
    go_enter Tryz.func71, Tryz.ntmps71
    go_wp2_with fail
    refine (name_any s 6 _ hs).mono ?_
    rintro e w' ⟨rfl, rfl⟩
    rw [H1.out]
    go_wp2
    go_ret
    exact .mk hr.out (Drawn.refl _)
  · have H1 := Lib.hid h1
    have e6 : ((k : Int) == 6) = false := beq_eq_false_iff_ne.2 (by omega)
    clear h1 h6
    go_enter Tryz.func71, Tryz.ntmps71
    go_wp2_with fail
    refine (name_any s 6 _ hs).mono ?_
    rintro e w' ⟨rfl, rfl⟩
    rw [H1.out]
    go_wp2
    go_ret
    exact .mk hr.out (Drawn.refl _)
  all_goals
    have H1 := Lib.hid h1
    have H2 := Lib.hid h2
    clear h1 h2
    go_enter Tryz.func71, Tryz.ntmps71
    go_wp2_with fail
    refine (name_any s 6 _ hs).mono ?_
    rintro e w' ⟨rfl, rfl⟩
    rw [H1.out]
    go_wp2_with fail
    refine (runway_any s _ hs).mono ?_
    rintro e w' ⟨rfl, hd⟩
    rw [H2.out]
    go_wp2
    go_ret
    exact .mk hr.out hd
set_option maxHeartbeats 1000000 in
theorem located_any (s : ByteArray) (k : Nat) (w : World) (hs : s.size ≤ maxLen) : Calls Tryz.prog 72 #[.string s, .int .u8 (k : Int)] w (EPost (locE (bl s) k) w) := by
  rcases locE_ways (bl s) k with ⟨rfl, ⟨h1, hr⟩ | ⟨h1, hr⟩⟩ | ⟨h6, ⟨h1, hr⟩ | ⟨h1, hr⟩⟩
  case inr.inl =>
    have H1 := Lib.hid h1
    have e6 : ((k : Int) == 6) = false := beq_eq_false_iff_ne.2 (by omega)
    have e7 : ((k : Int) != 6) = true := bne_iff_ne.2 (by omega)
    clear h1 h6
    go_enter Tryz.func72, Tryz.ntmps72
    go_wp2_with fail
    refine (short_any s _ hs).mono ?_
    rintro e w' ⟨rfl, rfl⟩
    rw [H1.out]
    go_wp2
    go_ret
    exact .mk hr.out (Drawn.refl _)
  case inr.inr =>
    have H1 := Lib.hid h1
    have e6 : ((k : Int) == 6) = false := beq_eq_false_iff_ne.2 (by omega)
    have e7 : ((k : Int) != 6) = true := bne_iff_ne.2 (by omega)
    clear h1 h6
    go_enter Tryz.func72, Tryz.ntmps72
    go_wp2_with fail
    refine (short_any s _ hs).mono ?_
    rintro e w' ⟨rfl, rfl⟩
    rw [H1.out]
    go_wp2
    go_ret
    exact .mk hr.out (Drawn.refl _)
  all_goals
    have H1 := Lib.hid h1
    clear h1
    go_enter Tryz.func72, Tryz.ntmps72
    go_wp2_with fail
    refine (name_any s 6 _ hs).mono ?_
    rintro e w' ⟨rfl, rfl⟩
    rw [H1.out]
    go_wp2
    go_ret
    exact .mk hr.out (Drawn.refl _)
theorem posB_iff {a b : Int} : posB a b = true ↔ -32400000 ≤ a ∧ a ≤ 32400000 ∧ -64800000 < b ∧ b ≤ 64800000 := by
  unfold posB latB lonB; simp only [Bool.and_eq_true, decide_eq_true_eq]; omega
theorem posB_ways (a b : Int) : (a < -32400000 ∧ Hid (posB a b = false)) ∨ (-32400000 ≤ a ∧ 32400000 < a ∧ Hid (posB a b = false)) ∨ (-32400000 ≤ a ∧ a ≤ 32400000 ∧ b ≤ -64800000 ∧ Hid (posB a b = false)) ∨ (-32400000 ≤ a ∧ a ≤ 32400000 ∧ -64800000 < b ∧ decide (b ≤ 64800000) = false ∧ Hid (posB a b = false)) ∨ (-32400000 ≤ a ∧ a ≤ 32400000 ∧ -64800000 < b ∧ decide (b ≤ 64800000) = true ∧ Hid (posB a b = true)) := by
  by_cases h : posB a b = true
  · have h2 := posB_iff.1 h
    exact .inr (.inr (.inr (.inr ⟨h2.1, h2.2.1, h2.2.2.1, decide_eq_true h2.2.2.2, h⟩)))
  · have hf : Hid (posB a b = false) := by unfold Hid; simpa using h
    have h2 : ¬ (-32400000 ≤ a ∧ a ≤ 32400000 ∧ -64800000 < b ∧ b ≤ 64800000) := fun x => h (posB_iff.2 x)
    by_cases h3 : a < -32400000
    · exact .inl ⟨h3, hf⟩
    · by_cases h4 : 32400000 < a
      · exact .inr (.inl ⟨by omega, h4, hf⟩)
      · by_cases h5 : b ≤ -64800000
        · exact .inr (.inr (.inl ⟨by omega, by omega, h5, hf⟩))
        · exact .inr (.inr (.inr (.inl ⟨by omega, by omega, by omega, decide_eq_false (by omega), hf⟩)))
theorem valid_any (a b : Int) (w : World) : Calls Tryz.prog 73 #[.agg #[.int .i64 a, .int .i64 b]] w fun e w' => e = .returned (.bool (posB a b)) ∧ Below w.heap.size w w' := by
  rcases posB_ways a b with ⟨h1, hf⟩ | ⟨h1, h2, hf⟩ | ⟨h1, h2, h3, hf⟩ | ⟨h1, h2, h3, h4, hf⟩ | ⟨h1, h2, h3, h4, hf⟩
  all_goals
    go_enter Tryz.func73, Tryz.ntmps73
    go_wp2
    go_ret
    exact ⟨ret_bool hf.out.symm, (Below.refl _ _).alloc (Nat.le_refl _) _⟩
end Go.Proofs.YtakgcdefbbgdaaaGreatDoor
namespace Go.Proofs.YtakgcdefbbgdaaaGreatDoor
open Go.RowKit
set_option linter.unusedVariables false
set_option linter.unusedSimpArgs false

def CkPost (er : Int) (w : World) (e : Ending) (w' : World) : Prop := e = .returned (.int .i64 er) ∧ Below w.heap.size w w'
theorem CkPost.mk {er x : Int} {w w' : World} (h : er = x) (hd : Below w.heap.size w w') : CkPost er w (.returned (.int .i64 x)) w' := by subst h; exact ⟨rfl, hd⟩
theorem fixE_kind {f : Fx} (h : f.kd < 1 ∨ 6 < f.kd) : fixE f = 17 := if_pos h
theorem fixE_id {f : Fx} (h : ¬ (f.kd < 1 ∨ 6 < f.kd)) (h1 : identE f.id f.kd ≠ 0) : fixE f = 5 := by unfold fixE; rw [if_neg h, if_pos h1]
theorem fixE_rg {f : Fx} (h : ¬ (f.kd < 1 ∨ 6 < f.kd)) (h1 : identE f.id f.kd = 0) (h2 : locE f.rg f.kd ≠ 0) : fixE f = 5 := by unfold fixE; rw [if_neg h, if_neg (by simp [h1]), if_pos h2]
theorem fixE_pos {f : Fx} (h : ¬ (f.kd < 1 ∨ 6 < f.kd)) (h1 : identE f.id f.kd = 0) (h2 : locE f.rg f.kd = 0) (h3 : posB f.lat f.lon = false) : fixE f = 2 := by
  unfold fixE; rw [if_neg h, if_neg (by simp [h1]), if_neg (by simp [h2]), if_pos h3]
theorem fixE_rest {f : Fx} (h : ¬ (f.kd < 1 ∨ 6 < f.kd)) (h1 : identE f.id f.kd = 0) (h2 : locE f.rg f.kd = 0) (h3 : posB f.lat f.lon = true) : fixE f = if elE f.kd f.el ≠ 0 then elE f.kd f.el else raE f.kd f.ra := by
  unfold fixE; rw [if_neg h, if_neg (by simp [h1]), if_neg (by simp [h2]), if_neg (by rw [h3]; decide)]
theorem identE_5 {l : List UInt8} {k : Nat} (h : identE l k ≠ 0) : identE l k = 5 := by unfold identE at *; split at h <;> simp_all
theorem locE_5 {l : List UInt8} {k : Nat} (h : locE l k ≠ 0) : locE l k = 5 := by unfold locE at *; split at h <;> simp_all
/-- the ways of the elevation, and of the range -/
inductive ElW (k : Nat) (x : Int) (lo hi : Int) (isB : Nat → Bool) (er : Int) : Prop
  | low (h : isB k = true) (h1 : x < lo) (e : er = 2)
  | high (h : isB k = true) (h0 : lo ≤ x) (h1 : hi < x) (e : er = 2)
  | ok (h : isB k = true) (h0 : lo ≤ x) (h1 : x ≤ hi) (e : er = 0)
  | arg (h : isB k = false) (h0 : (x != 0) = true) (e : er = 1)
  | none (h : isB k = false) (h0 : (x != 0) = false) (e : er = 0)
theorem elW (k : Nat) (x : Int) : ElW k x (-200000) 6000000 elevB (elE k x) := by
  cases h : elevB k
  · by_cases hx : x = 0
    · exact .none h (bne_eq_false_iff_eq.2 hx) (by unfold elE; rw [h]; simp [hx])
    · exact .arg h (bne_iff_ne.2 hx) (by unfold elE; rw [h]; simp [hx])
  · by_cases h1 : x < -200000
    · exact .low h h1 (by unfold elE; rw [h, if_pos rfl, if_pos (.inl h1)])
    · by_cases h2 : 6000000 < x
      · exact .high h (by omega) h2 (by unfold elE; rw [h, if_pos rfl, if_pos (.inr h2)])
      · exact .ok h (by omega) (by omega) (by unfold elE; rw [h, if_pos rfl, if_neg (by omega)])
theorem raW (k : Nat) (x : Int) : ElW k x 1 8000000 navB (raE k x) := by
  cases h : navB k
  · by_cases hx : x = 0
    · exact .none h (bne_eq_false_iff_eq.2 hx) (by unfold raE; rw [h]; simp [hx])
    · exact .arg h (bne_iff_ne.2 hx) (by unfold raE; rw [h]; simp [hx])
  · by_cases h1 : x < 1
    · exact .low h h1 (by unfold raE; rw [h, if_pos rfl, if_pos (.inl h1)])
    · by_cases h2 : 8000000 < x
      · exact .high h (by omega) h2 (by unfold raE; rw [h, if_pos rfl, if_pos (.inr h2)])
      · exact .ok h (by omega) (by omega) (by unfold raE; rw [h, if_pos rfl, if_neg (by omega)])
set_option maxRecDepth 100000 in
set_option maxHeartbeats 4000000 in
theorem checkF_any (f : Fx) (w : World) (hi : f.id.length ≤ maxLen) (hr : f.rg.length ≤ maxLen) :
    Calls Tryz.prog 25 #[.agg #[.string (sb f.id), .string (sb f.rg), .int .u8 (f.kd : Int), .int .i64 f.lat, .int .i64 f.lon, .int .i64 f.el, .int .i64 f.ra]] w (CkPost (fixE f) w) := by
  have B0 := Lib.hid (fxBox_new w f)
  have HB0 : Hid (Below w.heap.size w (w.alloc (.cells #[.string (sb f.id), .string (sb f.rg), .int .u8 (f.kd : Int), .int .i64 f.lat, .int .i64 f.lon, .int .i64 f.el, .int .i64 f.ra] 67))) := (Below.refl _ _).alloc (Nat.le_refl _) _
  have hk : f.kd < 1 ∨ (1 ≤ f.kd ∧ 6 < f.kd) ∨ (1 ≤ f.kd ∧ f.kd ≤ 6) := by omega
  rcases hk with k1 | ⟨k1, k2⟩ | ⟨k1, k2⟩
  · have HF := Lib.hid (fixE_kind (f := f) (.inl k1))
    have q1 : (f.kd : Int) < 1 := by omega
    clear k1 hi hr
    go_enter Tryz.func25, Tryz.ntmps25
    go_wp2
    go_ret
    exact .mk HF.out HB0.out
  · have HF := Lib.hid (fixE_kind (f := f) (.inr k2))
    have q1 : (1 : Int) ≤ (f.kd : Int) := by omega
    have q2 : (6 : Int) < (f.kd : Int) := by omega
    clear k1 k2 hi hr
    go_enter Tryz.func25, Tryz.ntmps25
    go_wp2
    go_ret
    exact .mk HF.out HB0.out
  · have HK : Hid (¬ (f.kd < 1 ∨ 6 < f.kd)) := by unfold Hid; omega
    have q1 : (1 : Int) ≤ (f.kd : Int) := by omega
    have q2 : (f.kd : Int) ≤ 6 := by omega
    have HI := Lib.hid hi
    have HR := Lib.hid hr
    clear k1 k2 hi hr
    go_enter Tryz.func25, Tryz.ntmps25
    go_wp2_with fail
    refine (identified_any (sb f.id) f.kd _ HI.out).mono ?_
    rintro e w1 ⟨rfl, hd1⟩
    rw [bl_sb]
    have B1 := Lib.hid (B0.out.below hd1.below)
    have HB1 := Lib.hid (Below.then_ HB0.out hd1.below)
    obtain ⟨c0, c1, c2, c3, c4, c5, c6⟩ := B1.out.cells
    obtain ⟨e1, he1⟩ : ∃ x, identE f.id f.kd = x := ⟨_, rfl⟩
    rw [he1]
    have HE1 := Lib.hid he1
    clear he1 hd1
    by_cases z1 : e1 = 0
    · subst z1
      go_wp2_with fail
      refine (located_any (sb f.rg) f.kd _ HR.out).mono ?_
      rintro e w2 ⟨rfl, hd2⟩
      rw [bl_sb]
      have B2 := Lib.hid (B1.out.below hd2.below)
      have HB2 := Lib.hid (Below.then_ HB1.out hd2.below)
      clear c0 c1 c2 c3 c4 c5 c6
      obtain ⟨c0, c1, c2, c3, c4, c5, c6⟩ := B2.out.cells
      obtain ⟨e2, he2⟩ : ∃ x, locE f.rg f.kd = x := ⟨_, rfl⟩
      rw [he2]
      have HE2 := Lib.hid he2
      clear he2 hd2 HB1 B1
      by_cases z2 : e2 = 0
      · subst z2
        go_wp2_with fail
        refine (valid_any f.lat f.lon _).mono ?_
        rintro e w3 ⟨rfl, hb3⟩
        have B3 := Lib.hid (B2.out.below hb3)
        have HB3 := Lib.hid (Below.then_ HB2.out hb3)
        clear c0 c1 c2 c3 c4 c5 c6
        obtain ⟨c0, c1, c2, c3, c4, c5, c6⟩ := B3.out.cells
        clear hb3 HB2 B2
        cases hp : posB f.lat f.lon
        · have HF := Lib.hid (fixE_pos HK.out HE1.out HE2.out hp)
          clear hp
          go_wp2
          go_ret
          exact .mk HF.out HB3.out
        · have HF := Lib.hid (fixE_rest HK.out HE1.out HE2.out hp)
          have EW := elW f.kd f.el
          obtain ⟨ee, hee⟩ : ∃ x, elE f.kd f.el = x := ⟨_, rfl⟩
          obtain ⟨er, her⟩ : ∃ x, raE f.kd f.ra = x := ⟨_, rfl⟩
          rw [hee] at HF EW
          have RW := raW f.kd f.ra
          rw [her] at HF RW
          clear hp hee her
          rcases EW with ⟨h, h1, e⟩ | ⟨h, h0, h1, e⟩ | ⟨h, h0, h1, e⟩ | ⟨h, h0, e⟩ | ⟨h, h0, e⟩
          case low | high | arg =>
            have HF2 := Lib.hid (HF.out.trans (if_pos (by rw [e]; decide)))
            have HX := Lib.hid e
            have HH := Lib.hid h
            clear e h RW HF
            go_wp2_with fail
            refine (elevated_any f.kd _).mono ?_
            rintro en w4 ⟨rfl, rfl⟩
            rw [HH.out]
            go_wp2
            go_ret
            exact .mk (HF2.out.trans HX.out) HB3.out
          all_goals
            have HF2 := Lib.hid (HF.out.trans (if_neg (by rw [e]; decide)))
            have HH := Lib.hid h
            clear e h HF
            go_wp2_with fail
            refine (elevated_any f.kd _).mono ?_
            rintro en w4 ⟨rfl, rfl⟩
            rw [HH.out]
            go_wp2_with fail
            refine (navaid_any f.kd _).mono ?_
            rintro en w5 ⟨rfl, rfl⟩
            rcases RW with ⟨h, g1, e⟩ | ⟨h, g0, g1, e⟩ | ⟨h, g0, g1, e⟩ | ⟨h, g0, e⟩ | ⟨h, g0, e⟩
            all_goals
              rw [h]
              have HX := Lib.hid e
              clear e h
              go_wp2
              go_ret
              exact .mk (HF2.out.trans HX.out) HB3.out
      · have HF := Lib.hid (fixE_rg HK.out HE1.out (by rw [HE2.out]; exact z2))
        have HX := Lib.hid (HE2.out.symm.trans (locE_5 (by rw [HE2.out]; exact z2)))
        have e3 : (e2 != 0) = true := bne_iff_ne.2 z2
        clear z2
        go_wp2
        go_ret
        exact .mk (HF.out.trans HX.out.symm) HB2.out
    · have HF := Lib.hid (fixE_id HK.out (by rw [HE1.out]; exact z1))
      have HX := Lib.hid (HE1.out.symm.trans (identE_5 (by rw [HE1.out]; exact z1)))
      have e3 : (e1 != 0) = true := bne_iff_ne.2 z1
      clear z1
      go_wp2
      go_ret
      exact .mk (HF.out.trans HX.out.symm) HB1.out
theorem elev_yes {k : Nat} (h : elevB k = true) : (5 : Int) ≤ (k : Int) := by unfold elevB at h; simp at h; omega
theorem elev_no {k : Nat} (h : elevB k = false) (h6 : (k : Int) ≤ 6) : (k : Int) < 5 := by unfold elevB at h; simp at h; omega
theorem nav_ways {k : Nat} {b : Bool} (h : navB k = b) : (b = true ∧ (2 : Int) ≤ (k : Int) ∧ (k : Int) ≤ 4) ∨ (b = false ∧ (k : Int) < 2) ∨ (b = false ∧ (2 : Int) ≤ (k : Int) ∧ 4 < (k : Int)) := by
  subst h
  cases h : navB k
  · unfold navB at h; simp at h
    by_cases h2 : (k : Int) < 2
    · exact .inr (.inl ⟨rfl, h2⟩)
    · exact .inr (.inr ⟨rfl, by omega, by omega⟩)
  · unfold navB at h; simp at h
    exact .inl ⟨rfl, by omega, by omega⟩
end Go.Proofs.YtakgcdefbbgdaaaGreatDoor
namespace Go.Proofs.YtakgcdefbbgdaaaGreatDoor
open Go.RowKit
set_option linter.unusedVariables false
set_option linter.unusedSimpArgs false

theorem infoFieldI : (Tryz.prog.info? 125).map (fun i => (i.zero, i.size, i.bytes)) = some (some (.agg #[.string ⟨#[]⟩, .int .i64 0]), 2, 24) := by kernel_rfl
theorem FsR.mono {w : World} {g g' : Nat} {v : Value} {fs : List FldI} (h : FsR w g v fs) (hg : g ≤ g') : FsR w g' v fs := by
  obtain ⟨A, c, hv, hc, hm, hf, hr⟩ := h
  refine ⟨A, c, hv, hc, hm, hf, fun h0 => ?_⟩
  obtain ⟨b, o, hA, hb, hx⟩ := hr h0
  exact ⟨b, o, hA, Nat.lt_of_lt_of_le hb hg, hx⟩
def ScanPost (num : Int) (fs : List FldI) (w : World) (e : Ending) (w' : World) : Prop :=
  ∃ g, e = .returned (.pointer (some ⟨g, 0, none⟩)) ∧ w.heap.size ≤ g ∧ ScP w' g (scan0 num fs) ∧ Below w.heap.size w w'
/-- what Scan leaves: the record's box, the fields' copy, the scanner -/
theorem scan_post {num : Int} {fs : List FldI} {w w2 : World} {v : Value} {g : Nat} (hg : w2.heap.size = g) (hf : FsR w2 w2.heap.size v fs) (hb : Below w.heap.size w w2) :
    ScanPost num fs w (.returned (.pointer (some ⟨g, 0, none⟩))) (w2.alloc (.cells #[.int .i64 num, v, .int .i64 0, .int .i64 1, .int .i64 0, .int .i64 0, .int .i64 0] 223)) := by
  subst hg
  have hb2 := (Below.refl w2.heap.size w2).alloc (Nat.le_refl _) (.cells #[.int .i64 num, v, .int .i64 0, .int .i64 1, .int .i64 0, .int .i64 0, .int .i64 0] 223)
  exact ⟨_, rfl, hb.size, ⟨Nat.zero_le _, v, heap_alloc_new w2 _, hf.keep fun k hk => hb2.block k hk⟩, hb.trans (hb2.mono hb.size)⟩
theorem ScanPost.drew {num : Int} {fs : List FldI} {w w' : World} {e : Ending} (h : ScanPost num fs w e w') : ScanPost num fs w e w'.drew := by
  obtain ⟨g, he, hg, hs, hb⟩ := h
  exact ⟨g, he, hg, hs.drew, hb.drew⟩
theorem fsr_nil (w : World) (g : Nat) : FsR w g (.slice none 0 0) [] := ⟨none, 0, rfl, Nat.le_refl _, by unfold maxLen; omega, by simp, fun h => absurd h (by simp)⟩
set_option maxHeartbeats 2000000 in
theorem scan_zero (num : Int) (v : Value) (w : World) (h : FsR w w.heap.size v []) :
    Calls Tryz.prog 95 #[.agg #[.int .i64 num, v]] w (ScanPost num [] w) := by
  obtain ⟨i0, hi, hz0, hz1, hz2⟩ := info_parts infoFieldI
  obtain ⟨A, c, rfl, hc, hm⟩ := fld_le h
  clear h
  have hl : ([] : List FldI).length = 0 := rfl
  rw [hl] at hc ⊢
  cases A
  all_goals
    go_enter Tryz.func95, Tryz.ntmps95
    go_wp2
    go_region
    go_wp2
    go_ret
    exact (scan_post (w2 := w.alloc _) (by simp) (fsr_nil _ _) ((Below.refl _ _).alloc (Nat.le_refl _) _)).drew
set_option maxRecDepth 100000 in
set_option maxHeartbeats 2000000 in
theorem scan_some (num : Int) (v : Value) (fs : List FldI) (w : World) (h : FsR w w.heap.size v fs) (h0 : 0 < fs.length) (hN : fs.length ≤ 5864062014634) :
    Calls Tryz.prog 95 #[.agg #[.int .i64 num, v]] w (ScanPost num fs w) := by
  obtain ⟨i0, hi, hz0, hz1, hz2⟩ := info_parts infoFieldI
  have H := Lib.hid h
  obtain ⟨A, c, hv, hc, hm, hf, hr⟩ := h
  obtain ⟨b, o, rfl, hb, hx⟩ := hr h0
  subst hv
  unfold maxLen at hm
  obtain ⟨n, hn⟩ : ∃ n, fs.length = n := ⟨_, rfl⟩
  have HX := Lib.hid hx
  have hfl := ficells_len fs
  rw [hn] at hc h0 hfl hN ⊢
  have HFL := Lib.hid hfl
  have HN := Lib.hid hn
  have HF := Lib.hid hf
  have HSRC : Hid (∀ wx : World, Below w.heap.size w wx → ∀ j u, (ficells fs)[j]? = some u → wx.cell? ((⟨b, o, none⟩ : Addr).add j) = some u) := by
    intro wx hbx j u hu
    rw [Addr.add_lit]
    exact (hbx.cell (p := ⟨b, o + j, none⟩) hb).trans (HX.out j u hu)
  have HONE : Hid (∀ u ∈ ficells fs, u.oneCell' = true) := by
    intro u hu
    unfold ficells at hu
    rw [List.mem_flatMap] at hu
    obtain ⟨f, _, hu⟩ := hu
    simp at hu
    rcases hu with rfl | rfl <;> rfl
  clear hn hf hx hr hfl
  go_enter Tryz.func95, Tryz.ntmps95
  go_wp2
  go_region_held3 (fun wx => wx.cell? ⟨w.heap.size, 0, none⟩ = some (.int .i64 num) ∧ wx.cell? ⟨w.heap.size, 1, none⟩ = some (.slice (some ⟨b, o, none⟩) n c))
    (first
      | go_keep
      | (go_split_ands
         refine ⟨?_, ?_⟩
         · (rw [hgrow.cell_far _ (by simp) (by simp [Value.ownBlock])]; assumption)
         · (rw [hgrow.cell_far _ (by simp) (by simp [Value.ownBlock])]; assumption)))
    ((refine step_append_lies _ (by rfl) _ _ _ (by rfl) w.heap.size 125 i0 (.agg #[.string ⟨#[]⟩, .int .i64 0]) 2 24 Tryz.underlying62 hi hz0 hz1 hz2 rfl (by omega) (.slice none 0 0) 0 [] (by rfl) (World.ownsRow_nil _ _ _ _) ⟨b, o, none⟩ n c (ficells fs) (by rfl) HFL.out (by exact HSRC.out _ (by repeat (first | exact Below.refl _ _ | refine Below.drew ?_ | refine Below.alloc ?_ (by simp) _ | refine below_drewN' ?_ _))) HONE.out (by omega) (by unfold maxLen; omega) (by omega) (by simp) (w.heap.size + 1) (by simp) ?_; intro gg cap w2 hown2 hgrow hat hlt2))
  have HFS : Hid (FsR w2 w2.heap.size (.slice (some ⟨gg, 0, none⟩) n cap) fs) := by
    simp only [Nat.zero_add, List.nil_append] at hown2
    have h2 := hown2
    obtain ⟨_, ⟨h3, _⟩ | ⟨g', cap', cur, h3, _, _, hnc, hcm, _⟩⟩ := h2
    · simp at h3
    · simp only [Value.slice.injEq, true_and] at h3
      obtain ⟨_, rfl⟩ := h3
      refine ⟨_, cap, by rw [HN.out], by rw [HN.out]; exact hnc, hcm, HF.out, fun _ => ⟨gg, 0, rfl, hlt2, fun j u hu => ?_⟩⟩
      have hj : j < n * 2 := by
        rw [← HFL.out]; exact (List.getElem?_eq_some_iff.1 hu).1
      rw [Nat.zero_add, hown2.cellAt j hj]; exact hu
  have HBB : Hid (Below w.heap.size w w2) := ((((Below.refl w.heap.size w).alloc (Nat.le_refl _) (.cells #[.int .i64 num, .slice (some ⟨b, o, none⟩) n c] 64)).drew).grown hgrow (by simp) (fun j hj => by cases hj) : Below w.heap.size w w2)
  clear hown2 hgrow hat
  go_wp2
  go_ret
  exact scan_post rfl HFS.out HBB.out
theorem scan_any (num : Int) (v : Value) (fs : List FldI) (w : World) (h : FsR w w.heap.size v fs) (hN : fs.length ≤ 5864062014634) :
    Calls Tryz.prog 95 #[.agg #[.int .i64 num, v]] w (ScanPost num fs w) := by
  match fs, h, hN with
  | [], h, _ => exact scan_zero num v w h
  | f :: fs, h, hN => exact scan_some num v (f :: fs) w h (by simp) hN

def EndPost (s : Sc) (w : World) (e : Ending) (w' : World) : Prop := e = .returned (.tuple #[.agg #[.int .i64 s.endL, .int .i64 s.endC, .int .i64 s.endE], .bool s.endB]) ∧ Below w.heap.size w w'
theorem EndPost.mk {s : Sc} {w w' : World} {a b c : Int} {f : Bool} (h1 : s.endL = a) (h2 : s.endC = b) (h3 : s.endE = c) (h4 : s.endB = f) (h : Below w.heap.size w w') : EndPost s w (.returned (.tuple #[.agg #[.int .i64 a, .int .i64 b, .int .i64 c], .bool f])) w' := by
  subst h1 h2 h3 h4; exact ⟨rfl, h⟩
theorem end_bad {s : Sc} (h : s.bad = true) : s.endL = s.dl ∧ s.endC = s.dc ∧ s.endE = s.de ∧ s.endB = true := by
  unfold Sc.endL Sc.endC Sc.endE Sc.endB; rw [h]; exact ⟨rfl, rfl, rfl, rfl⟩
theorem end_more {s : Sc} (h : s.bad = false) (h2 : s.nx < s.fs.length) : s.endL = s.num ∧ s.endC = (fld s.fs s.nx).2 ∧ s.endE = 4 ∧ s.endB = true := by
  unfold Sc.endL Sc.endC Sc.endE Sc.endB; rw [h]; simp [h2]
theorem end_ok {s : Sc} (h : s.bad = false) (h2 : ¬ s.nx < s.fs.length) : s.endL = 0 ∧ s.endC = 0 ∧ s.endE = 0 ∧ s.endB = false := by
  unfold Sc.endL Sc.endC Sc.endE Sc.endB; rw [h]; simp [h2]
set_option maxRecDepth 100000 in
set_option maxHeartbeats 2000000 in
theorem endS_any (s : Sc) (g : Nat) (w : World) (h : ScP w g s) :
    Calls Tryz.prog 105 #[.pointer (some ⟨g, 0, none⟩)] w (EndPost s w) := by
  have H := Lib.hid h
  have hgs := h.lt
  obtain ⟨hn, v, hb, hf⟩ := h
  skip
  cases hbad : s.bad
  · have HB := Lib.hid hbad
    try rw [hbad] at c7
    by_cases hlt : s.nx < s.fs.length
    · have HE := Lib.hid (end_more hbad hlt)
      obtain ⟨b, o, c, rfl, hbl, hc0, hc1, hsz⟩ := hf.at_ hlt
      have hbn : b ≠ g := Nat.ne_of_lt hbl
      have hbw : b < w.heap.size := Nat.lt_trans hbl hgs
      have k0 : w.cell? ⟨g, 0, none⟩ = some (.int .i64 s.num) := blkCell hb 0 rfl
      have k1 : w.cell? ⟨g, 1, none⟩ = some (.slice (some ⟨b, o, none⟩) s.fs.length c) := blkCell hb 1 rfl
      have k2 : w.cell? ⟨g, 2, none⟩ = some (.int .i64 (s.nx : Int)) := blkCell hb 2 rfl
      obtain ⟨A', c', hv', hcn, hcm⟩ := fld_le hf
      simp only [Value.slice.injEq, true_and] at hv'
      obtain ⟨-, rfl⟩ := hv'
      obtain ⟨n, hnn⟩ : ∃ n, s.fs.length = n := ⟨_, rfl⟩
      obtain ⟨k, hkk⟩ : ∃ k, s.nx = k := ⟨_, rfl⟩
      obtain ⟨co, hco⟩ : ∃ t, (fld s.fs s.nx).2 = t := ⟨_, rfl⟩
      rw [hco] at hc1 HE
      rw [hkk] at hlt k2 hc1
      rw [hnn] at hlt hcn k1
      clear hnn hkk hco hb hf hn hbad hsz hc0
      have hki : (k : Int) < (n : Int) := by omega
      have hk0 : (0 : Int) ≤ (k : Int) := by omega
      have hknat : ((k : Int)).toNat = k := Int.toNat_natCast k
      go_enter Tryz.func105, Tryz.ntmps105
      go_wp2_with fail
      refine (failed_any s g _ (H.out.alloc _)).mono ?_
      rintro en w1 ⟨rfl, rfl⟩; rw [HB.out]
      go_wp2
      go_quiet (fail)
      go_wp2
      go_region
      go_wp2
      exact bodyPost_ret (v := .tuple #[.agg #[.int .i64 s.num, .int .i64 co, .int .i64 4], .bool true]) (by simp [results, Tryz.results105, go_sem]) rfl (EndPost.mk HE.out.1 HE.out.2.1 HE.out.2.2.1 HE.out.2.2.2 (by repeat (first | exact Below.refl _ _ | refine Below.setCell ?_ (by simp) _ | refine Below.drew ?_ | refine below_drewN' ?_ _ | refine Below.alloc ?_ (by simp) _)))
    · have HE := Lib.hid (end_ok hbad hlt)
      obtain ⟨A, c, rfl, hcn, hcm⟩ := fld_le hf
      have k1 : w.cell? ⟨g, 1, none⟩ = some (.slice A s.fs.length c) := blkCell hb 1 rfl
      have k2 : w.cell? ⟨g, 2, none⟩ = some (.int .i64 (s.nx : Int)) := blkCell hb 2 rfl
      obtain ⟨n, hnn⟩ : ∃ n, s.fs.length = n := ⟨_, rfl⟩
      obtain ⟨k, hkk⟩ : ∃ k, s.nx = k := ⟨_, rfl⟩
      rw [hkk] at k2 hlt
      rw [hnn] at hcn k1 hlt
      have hki : (n : Int) ≤ (k : Int) := by omega
      clear hnn hkk hb hf hn hbad hlt
      go_enter Tryz.func105, Tryz.ntmps105
      go_wp2_with fail
      refine (failed_any s g _ (H.out.alloc _)).mono ?_
      rintro en w1 ⟨rfl, rfl⟩; rw [HB.out]
      go_wp2
      go_quiet (fail)
      go_wp2
      exact bodyPost_ret (v := .tuple #[.agg #[.int .i64 0, .int .i64 0, .int .i64 0], .bool false]) (by simp [results, Tryz.results105, go_sem]) rfl (EndPost.mk HE.out.1 HE.out.2.1 HE.out.2.2.1 HE.out.2.2.2 (by repeat (first | exact Below.refl _ _ | refine Below.setCell ?_ (by simp) _ | refine Below.drew ?_ | refine below_drewN' ?_ _ | refine Below.alloc ?_ (by simp) _)))
  · have HE := Lib.hid (end_bad hbad)
    have HB := Lib.hid hbad
    try rw [hbad] at c7
    have k4 : w.cell? ⟨g, 4, none⟩ = some (.int .i64 s.dl) := blkCell hb 4 rfl
    have k5 : w.cell? ⟨g, 5, none⟩ = some (.int .i64 s.dc) := blkCell hb 5 rfl
    have k6 : w.cell? ⟨g, 6, none⟩ = some (.int .i64 s.de) := blkCell hb 6 rfl
    clear hbad hb hf hn
    go_enter Tryz.func105, Tryz.ntmps105
    go_wp2_with fail
    refine (failed_any s g _ (H.out.alloc _)).mono ?_
    rintro en w1 ⟨rfl, rfl⟩; rw [HB.out]
    go_wp2
    exact bodyPost_ret (v := .tuple #[.agg #[.int .i64 s.dl, .int .i64 s.dc, .int .i64 s.de], .bool true]) (by simp [results, Tryz.results105, go_sem]) rfl (EndPost.mk HE.out.1 HE.out.2.1 HE.out.2.2.1 HE.out.2.2.2 (by repeat (first | exact Below.refl _ _ | refine Below.setCell ?_ (by simp) _ | refine Below.drew ?_ | refine below_drewN' ?_ _ | refine Below.alloc ?_ (by simp) _)))
end Go.Proofs.YtakgcdefbbgdaaaGreatDoor
namespace Go.Proofs.YtakgcdefbbgdaaaGreatDoor
open Go.RowKit
set_option linter.unusedVariables false
set_option linter.unusedSimpArgs false

/-! ### what is taken -/
def tkKd (s : Sc) : Nat := (s.tv (-1) (fun t => wordAt kindWords t 0) + 1).toNat
def tkNm (s : Sc) (er : List UInt8 → Int) : Sc := s.take.note s.take.la (er s.text)
def tkEl (s : Sc) (k : Nat) : Sc := if elevB k then s.tk (fun t => pAltE (altSpec t)) else s
def elV (s : Sc) (k : Nat) : Int := if elevB k then s.tv 0 (fun t => pAltN (altSpec t)) else 0
def raV (s : Sc) (k : Nat) : Int := if navB k then s.tv 0 (fun t => distN (distSpec t)) else 0
def tkDs (s : Sc) : Sc := s.tk (fun t => distE (distSpec t))
def tkRa (s : Sc) (k : Nat) : Sc := if navB k then (if raV s k = 0 then (tkDs s).note (tkDs s).la 2 else tkDs s) else s
def tk2 (s : Sc) : Sc := tkNm (s.tk (wordE kindWords)) (fun t => identE t (tkKd s))
def tk3 (s : Sc) : Sc := tkNm (tk2 s) (fun t => locE t (tkKd s))
def tk4 (s : Sc) : Sc := (tk3 s).tk posPErr
def tk5 (s : Sc) : Sc := tkEl (tk4 s) (tkKd s)
def tk6 (s : Sc) : Sc := tkRa (tk5 s) (tkKd s)
def tkFx (s : Sc) : Fx := ⟨(s.tk (wordE kindWords)).text, (tk2 s).text, tkKd s, (tk3 s).tv 0 posPLat, (tk3 s).tv 0 posPLon, elV (tk4 s) (tkKd s), raV (tk5 s) (tkKd s)⟩
/-- the fix that is returned -/
def tkOut (s : Sc) : Fx := if (tk6 s).endB then fx0 else tkFx s
theorem Sc.tk_fs (s : Sc) (er : List UInt8 → Int) : (s.tk er).fs = s.fs := by
  unfold Sc.tk; split
  · rw [Sc.note_fs, Sc.take_fs]
  · exact Sc.take_fs s
theorem tkNm_fs (s : Sc) (er : List UInt8 → Int) : (tkNm s er).fs = s.fs := by unfold tkNm; rw [Sc.note_fs, Sc.take_fs]
theorem tkEl_fs (s : Sc) (k : Nat) : (tkEl s k).fs = s.fs := by unfold tkEl; split; exact Sc.tk_fs s _; rfl
theorem Sc.text_le {s : Sc} {N : Nat} (h : ∀ f ∈ s.fs, f.1.length ≤ N) : s.text.length ≤ N := by
  unfold Sc.text
  split
  · rename_i hg
    have hl := (Sc.got_iff.1 hg).2
    unfold fld
    rw [List.getD_eq_getElem?_getD, List.getElem?_eq_getElem hl]
    exact h _ (List.getElem_mem hl)
  · exact Nat.zero_le _
theorem wordAt_bd (ws : List (List UInt8)) (t : List UInt8) : ∀ n : Nat, wordAt ws t n = -1 ∨ ((n : Int) ≤ wordAt ws t n ∧ wordAt ws t n < n + ws.length) := by
  induction ws with
  | nil => intro n; exact .inl rfl
  | cons w ws ih =>
    intro n
    unfold wordAt
    split
    · right; rw [List.length_cons]; omega
    · rcases ih (n + 1) with h | h
      · exact .inl h
      · right; rw [List.length_cons]; omega
theorem tkKd_eq (s : Sc) : s.tv (-1) (fun t => wordAt kindWords t 0) + 1 = (tkKd s : Int) ∧ tkKd s ≤ 6 := by
  have h : s.tv (-1) (fun t => wordAt kindWords t 0) = -1 ∨ (0 ≤ s.tv (-1) (fun t => wordAt kindWords t 0) ∧ s.tv (-1) (fun t => wordAt kindWords t 0) < 6) := by
    unfold Sc.tv
    split
    · have := wordAt_bd kindWords s.text 0
      have hl : kindWords.length = 6 := rfl
      rw [hl] at this
      show wordAt kindWords s.text 0 = -1 ∨ (0 ≤ wordAt kindWords s.text 0 ∧ wordAt kindWords s.text 0 < 6)
      omega
    · exact .inl rfl
  unfold tkKd
  omega
theorem distN_nonneg (o : Option Int) (h : ∀ v, o = some v → 0 ≤ v) : 0 ≤ distN o := by
  unfold distN
  cases o with
  | none => simp
  | some v => simp only []; split; exact h v rfl; simp
theorem distSpec_nonneg (l : List UInt8) : ∀ v, distSpec l = some v → 0 ≤ v := by
  intro v h
  unfold distSpec distOf at h
  split at h
  · injection h with h; omega
  · cases h
theorem raV_nonneg (s : Sc) (k : Nat) : 0 ≤ raV s k := by
  unfold raV Sc.tv
  split
  · split
    · exact distN_nonneg _ (distSpec_nonneg _)
    · simp
  · simp
/-! ### the memory -/
def DgBox (w : World) (b : Nat) : Prop := w.heap[b]? = some (.cells #[.int .i64 0, .int .i64 0, .int .i64 0] 39 (0, 0))
structure TkR (P : World → Nat → Sc → Prop) (w0 : World) (g bf : Nat) (s : Sc) (f : Fx) (w : World) : Prop where
  sc : P w g s
  bx : FxBox w bf f
  r1 : FxBox w (w0.heap.size + 1) fx0
  r2 : DgBox w (w0.heap.size + 2)
  gb : g < bf
  lo : w0.heap.size + 3 ≤ g
  be : Below w0.heap.size w0 w
section
variable {P : World → Nat → Sc → Prop} {w0 w w' : World} {g bf : Nat} {s s' : Sc} {f : Fx}
theorem TkR.call (h : TkR P w0 g bf s f w) (hs : P w' g s') (ho : Off g w w') : TkR P w0 g bf s' f w' := by
  have l1 := lt_heap h.bx
  have l2 := lt_heap h.r1
  have l3 := lt_heap h.r2
  have gb := h.gb
  have lo := h.lo
  exact ⟨hs, (ho.block bf l1 (by intro e; injection e with e; omega)).trans h.bx, (ho.block _ l2 (by intro e; injection e with e; omega)).trans h.r1, (ho.block _ l3 (by intro e; injection e with e; omega)).trans h.r2, gb, lo, ho.below h.be (by omega) (by omega)⟩
theorem TkR.cells (h : TkR P w0 g bf s f w) : FxCells w bf (sb f.id) (sb f.rg) f.kd f.lat f.lon f.el f.ra := h.bx.cells
theorem TkR.free (h : TkR P w0 g bf s f w) (j : Nat) : w.frozen? ⟨bf, j, none⟩ = false := frozen_of_row w bf j _ _ h.bx
theorem TkR.lt (h : TkR P w0 g bf s f w) : bf < w.heap.size := lt_heap h.bx
end
theorem TkR.pset {w0 w : World} {g bf : Nat} {s : Sc} {f f' : Fx} (h : TkR ScP w0 g bf s f w) {w' : World} (hx : FxBox w' bf f') (ho : ∀ k, k ≠ bf → w'.heap[k]? = w.heap[k]?) (hb : Below w0.heap.size w0 w') : TkR ScP w0 g bf s f' w' := by
  have gb := h.gb
  have lo := h.lo
  exact ⟨h.sc.keep fun k hk => ho k (by omega), hx, (ho _ (by omega)).trans h.r1, (ho _ (by omega)).trans h.r2, gb, lo, hb⟩
theorem TkR.pid {w0 w : World} {g bf : Nat} {s : Sc} {f : Fx} (h : TkR ScP w0 g bf s f w) (l : List UInt8) : TkR ScP w0 g bf s { f with id := l } (w.setCell ⟨bf, 0, none⟩ (.string (sb l))) :=
  h.pset (heap_setCell_same w bf 0 _ _ _ h.bx) (fun k hk => heap_setCell_other w ⟨bf, 0, none⟩ k _ (fun e => hk (by simpa using e))) (h.be.setCell (by have := h.gb; have := h.lo; simp; omega) _)
theorem TkR.prg {w0 w : World} {g bf : Nat} {s : Sc} {f : Fx} (h : TkR ScP w0 g bf s f w) (l : List UInt8) : TkR ScP w0 g bf s { f with rg := l } (w.setCell ⟨bf, 1, none⟩ (.string (sb l))) :=
  h.pset (heap_setCell_same w bf 1 _ _ _ h.bx) (fun k hk => heap_setCell_other w ⟨bf, 1, none⟩ k _ (fun e => hk (by simpa using e))) (h.be.setCell (by have := h.gb; have := h.lo; simp; omega) _)
theorem TkR.plat {w0 w : World} {g bf : Nat} {s : Sc} {f : Fx} (h : TkR ScP w0 g bf s f w) (x : Int) : TkR ScP w0 g bf s { f with lat := x } (w.setCell ⟨bf, 3, none⟩ (.int .i64 x)) :=
  h.pset (heap_setCell_same w bf 3 _ _ _ h.bx) (fun k hk => heap_setCell_other w ⟨bf, 3, none⟩ k _ (fun e => hk (by simpa using e))) (h.be.setCell (by have := h.gb; have := h.lo; simp; omega) _)
theorem TkR.plon {w0 w : World} {g bf : Nat} {s : Sc} {f : Fx} (h : TkR ScP w0 g bf s f w) (x : Int) : TkR ScP w0 g bf s { f with lon := x } (w.setCell ⟨bf, 4, none⟩ (.int .i64 x)) :=
  h.pset (heap_setCell_same w bf 4 _ _ _ h.bx) (fun k hk => heap_setCell_other w ⟨bf, 4, none⟩ k _ (fun e => hk (by simpa using e))) (h.be.setCell (by have := h.gb; have := h.lo; simp; omega) _)
theorem TkR.pel {w0 w : World} {g bf : Nat} {s : Sc} {f : Fx} (h : TkR ScP w0 g bf s f w) (x : Int) : TkR ScP w0 g bf s { f with el := x } (w.setCell ⟨bf, 5, none⟩ (.int .i64 x)) :=
  h.pset (heap_setCell_same w bf 5 _ _ _ h.bx) (fun k hk => heap_setCell_other w ⟨bf, 5, none⟩ k _ (fun e => hk (by simpa using e))) (h.be.setCell (by have := h.gb; have := h.lo; simp; omega) _)
theorem TkR.pra {w0 w : World} {g bf : Nat} {s : Sc} {f : Fx} (h : TkR ScP w0 g bf s f w) (x : Int) : TkR ScP w0 g bf s { f with ra := x } (w.setCell ⟨bf, 6, none⟩ (.int .i64 x)) :=
  h.pset (heap_setCell_same w bf 6 _ _ _ h.bx) (fun k hk => heap_setCell_other w ⟨bf, 6, none⟩ k _ (fun e => hk (by simpa using e))) (h.be.setCell (by have := h.gb; have := h.lo; simp; omega) _)
/-- the words of the kinds, in memory -/
def kwObj : Obj := .cells #[.string (sb [87, 65, 89, 80, 79, 73, 78, 84]), .string (sb [86, 79, 82]), .string (sb [68, 77, 69]), .string (sb [78, 68, 66]), .string (sb [65, 73, 82, 80, 79, 82, 84]), .string (sb [82, 85, 78, 87, 65, 89])] 9
theorem kw_wdr {w : World} {g : Nat} (hg : g < w.heap.size) : WdR (w.alloc kwObj) g (.slice (some ⟨w.heap.size, 0, none⟩) 6 6) kindWords := by
  refine ⟨_, 6, rfl, Nat.le_refl _, by unfold maxLen; omega, fun _ => ⟨w.heap.size, 0, rfl, by simp, by omega, fun k hk => ?_⟩⟩
  have hb := heap_alloc_new w kwObj
  have hk6 : k < 6 := hk
  rw [Nat.zero_add, Lib.cell_of_heap hb]
  match k, hk6 with
  | 0, _ => rfl
  | 1, _ => rfl
  | 2, _ => rfl
  | 3, _ => rfl
  | 4, _ => rfl
  | 5, _ => rfl
theorem kwords_any (w : World) : Calls Tryz.prog 85 #[] w fun e w' => e = .returned (.slice (some ⟨w.heap.size, 0, none⟩) 6 6) ∧ w' = w.alloc kwObj := by
  go_enter Tryz.func85, Tryz.ntmps85
  go_wp2
  go_ret
  exact ⟨rfl, rfl⟩
end Go.Proofs.YtakgcdefbbgdaaaGreatDoor
