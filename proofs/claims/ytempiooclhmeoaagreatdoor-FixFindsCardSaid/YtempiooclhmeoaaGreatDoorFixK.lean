/-
  Contracts: the first error of a fix, on both sides.
-/
import Derived.Test.YtempiooclhmeoaaGreatDoorFixC
namespace Go.Proofs.YtempiooclhmeoaaGreatDoor
open Go.RowKit
set_option linter.unusedVariables false
set_option linter.unusedSimpArgs false

theorem blkCell' {w : World} {g : Nat} {cs : Array Value} {T : TypeId} (h : w.heap[g]? = some (.cells cs T (0, 0))) (j : Nat) {u : Value} (hu : cs[j]? = some u) : w.cell? ⟨g, j, none⟩ = some u := by rw [Lib.cell_of_heap h]; exact hu
def CkPost (er : Int) (w : World) (e : Ending) (w' : World) : Prop := e = .returned (.int .i64 er) ∧ Below w.heap.size w w'
theorem CkPost.mk {er x : Int} {w w' : World} (h : er = x) (hd : Below w.heap.size w w') : CkPost er w (.returned (.int .i64 x)) w' := by subst h; exact ⟨rfl, hd⟩
theorem fixE_kind {f : Fx} (h : f.kd < 1 ∨ 6 < f.kd) : fixE f = 17 := if_pos h
theorem fixE_id {f : Fx} (h : ¬ (f.kd < 1 ∨ 6 < f.kd)) (h1 : identE f.id f.kd ≠ 0) : fixE f = 5 := by unfold fixE; rw [if_neg h, if_pos h1]
theorem fixE_rg {f : Fx} (h : ¬ (f.kd < 1 ∨ 6 < f.kd)) (h1 : identE f.id f.kd = 0) (h2 : locE f.rg f.kd ≠ 0) : fixE f = 5 := by unfold fixE; rw [if_neg h, if_neg (by simp [h1]), if_pos h2]
theorem fixE_pos {f : Fx} (h : ¬ (f.kd < 1 ∨ 6 < f.kd)) (h1 : identE f.id f.kd = 0) (h2 : locE f.rg f.kd = 0) (h3 : posB f.lat f.lon = false) : fixE f = 2 := by
  unfold fixE; rw [if_neg h, if_neg (by simp [h1]), if_neg (by simp [h2]), if_pos h3]
theorem fixE_rest {f : Fx} (h : ¬ (f.kd < 1 ∨ 6 < f.kd)) (h1 : identE f.id f.kd = 0) (h2 : locE f.rg f.kd = 0) (h3 : posB f.lat f.lon = true) : fixE f = if elE f.kd f.el ≠ 0 then elE f.kd f.el else raE f.kd f.ra := by
  unfold fixE; rw [if_neg h, if_neg (by simp [h1]), if_neg (by simp [h2]), if_neg (by rw [h3]; decide)]
theorem identE_5 {l : List UInt8} {k : Nat} (h : identE l k ≠ 0) : identE l k = 5 := by unfold identE at *; split at h <;> simp_all
theorem locE_5 {l : List UInt8} {k : Nat} (h : locE l k ≠ 0) : locE l k = 5 := by unfold locE at *; split at h <;> simp_all
/-- the ways of the elevation, and of the range -/
inductive ElW (k : Nat) (x : Int) (lo hi : Int) (isB : Nat → Bool) (er : Int) : Prop
  | low (h : isB k = true) (h1 : x < lo) (e : er = 2)
  | high (h : isB k = true) (h0 : lo ≤ x) (h1 : hi < x) (e : er = 2)
  | ok (h : isB k = true) (h0 : lo ≤ x) (h1 : x ≤ hi) (e : er = 0)
  | arg (h : isB k = false) (h0 : (x != 0) = true) (e : er = 1)
  | none (h : isB k = false) (h0 : (x != 0) = false) (e : er = 0)
theorem elW (k : Nat) (x : Int) : ElW k x (-200000) 6000000 elevB (elE k x) := by
  cases h : elevB k
  · by_cases hx : x = 0
    · exact .none h (bne_eq_false_iff_eq.2 hx) (by unfold elE; rw [h]; simp [hx])
    · exact .arg h (bne_iff_ne.2 hx) (by unfold elE; rw [h]; simp [hx])
  · by_cases h1 : x < -200000
    · exact .low h h1 (by unfold elE; rw [h, if_pos rfl, if_pos (.inl h1)])
    · by_cases h2 : 6000000 < x
      · exact .high h (by omega) h2 (by unfold elE; rw [h, if_pos rfl, if_pos (.inr h2)])
      · exact .ok h (by omega) (by omega) (by unfold elE; rw [h, if_pos rfl, if_neg (by omega)])
theorem raW (k : Nat) (x : Int) : ElW k x 1 8000000 navB (raE k x) := by
  cases h : navB k
  · by_cases hx : x = 0
    · exact .none h (bne_eq_false_iff_eq.2 hx) (by unfold raE; rw [h]; simp [hx])
    · exact .arg h (bne_iff_ne.2 hx) (by unfold raE; rw [h]; simp [hx])
  · by_cases h1 : x < 1
    · exact .low h h1 (by unfold raE; rw [h, if_pos rfl, if_pos (.inl h1)])
    · by_cases h2 : 8000000 < x
      · exact .high h (by omega) h2 (by unfold raE; rw [h, if_pos rfl, if_pos (.inr h2)])
      · exact .ok h (by omega) (by omega) (by unfold raE; rw [h, if_pos rfl, if_neg (by omega)])
/-- a fix in a box of the call's own -/
def FxBox (w : World) (b : Nat) (f : Fx) : Prop := w.heap[b]? = some (.cells #[.string (sb f.id), .string (sb f.rg), .int .u8 (f.kd : Int), .int .i64 f.lat, .int .i64 f.lon, .int .i64 f.el, .int .i64 f.ra] 26 (0, 0))
structure FxCells (w : World) (b : Nat) (a c : ByteArray) (k : Nat) (lat lon el ra : Int) : Prop where
  c0 : w.cell? ⟨b, 0, none⟩ = some (.string a)
  c1 : w.cell? ⟨b, 1, none⟩ = some (.string c)
  c2 : w.cell? ⟨b, 2, none⟩ = some (.int .u8 (k : Int))
  c3 : w.cell? ⟨b, 3, none⟩ = some (.int .i64 lat)
  c4 : w.cell? ⟨b, 4, none⟩ = some (.int .i64 lon)
  c5 : w.cell? ⟨b, 5, none⟩ = some (.int .i64 el)
  c6 : w.cell? ⟨b, 6, none⟩ = some (.int .i64 ra)
theorem FxBox.cells {w : World} {b : Nat} {f : Fx} (h : FxBox w b f) : FxCells w b (sb f.id) (sb f.rg) f.kd f.lat f.lon f.el f.ra :=
  ⟨blkCell' h 0 rfl, blkCell' h 1 rfl, blkCell' h 2 rfl, blkCell' h 3 rfl, blkCell' h 4 rfl, blkCell' h 5 rfl, blkCell' h 6 rfl⟩
theorem FxBox.below {w w' : World} {b : Nat} {f : Fx} (h : FxBox w b f) (hb : Below w.heap.size w w') : FxBox w' b f := (hb.block b (Array.getElem?_eq_some_iff.1 h).1).trans h
theorem fxBox_new (w : World) (f : Fx) : FxBox (w.alloc (.cells #[.string (sb f.id), .string (sb f.rg), .int .u8 (f.kd : Int), .int .i64 f.lat, .int .i64 f.lon, .int .i64 f.el, .int .i64 f.ra] 26)) w.heap.size f := heap_alloc_new w _
set_option maxRecDepth 100000 in
set_option maxHeartbeats 4000000 in
theorem check_any (f : Fx) (w : World) (hi : f.id.length ≤ maxLen) (hr : f.rg.length ≤ maxLen) :
    Calls Tryz.prog 13 #[.agg #[.string (sb f.id), .string (sb f.rg), .int .u8 (f.kd : Int), .int .i64 f.lat, .int .i64 f.lon, .int .i64 f.el, .int .i64 f.ra]] w (CkPost (fixE f) w) := by
  have B0 := Lib.hid (fxBox_new w f)
  have HB0 : Hid (Below w.heap.size w (w.alloc (.cells #[.string (sb f.id), .string (sb f.rg), .int .u8 (f.kd : Int), .int .i64 f.lat, .int .i64 f.lon, .int .i64 f.el, .int .i64 f.ra] 26))) := (Below.refl _ _).alloc (Nat.le_refl _) _
  have hk : f.kd < 1 ∨ (1 ≤ f.kd ∧ 6 < f.kd) ∨ (1 ≤ f.kd ∧ f.kd ≤ 6) := by omega
  rcases hk with k1 | ⟨k1, k2⟩ | ⟨k1, k2⟩
  · have HF := Lib.hid (fixE_kind (f := f) (.inl k1))
    have q1 : (f.kd : Int) < 1 := by omega
    clear k1 hi hr
    go_enter Tryz.func13, Tryz.ntmps13
    go_wp2
    go_ret
    exact .mk HF.out HB0.out
  · have HF := Lib.hid (fixE_kind (f := f) (.inr k2))
    have q1 : (1 : Int) ≤ (f.kd : Int) := by omega
    have q2 : (6 : Int) < (f.kd : Int) := by omega
    clear k1 k2 hi hr
    go_enter Tryz.func13, Tryz.ntmps13
    go_wp2
    go_ret
    exact .mk HF.out HB0.out
  · have HK : Hid (¬ (f.kd < 1 ∨ 6 < f.kd)) := by unfold Hid; omega
    have q1 : (1 : Int) ≤ (f.kd : Int) := by omega
    have q2 : (f.kd : Int) ≤ 6 := by omega
    have HI := Lib.hid hi
    have HR := Lib.hid hr
    clear k1 k2 hi hr
    go_enter Tryz.func13, Tryz.ntmps13
    go_wp2_with fail
    refine (identified_any (sb f.id) f.kd _ HI.out).mono ?_
    rintro e w1 ⟨rfl, hd1⟩
    rw [bl_sb]
    have B1 := Lib.hid (B0.out.below hd1.below)
    have HB1 := Lib.hid (Below.then_ HB0.out hd1.below)
    obtain ⟨c0, c1, c2, c3, c4, c5, c6⟩ := B1.out.cells
    obtain ⟨e1, he1⟩ : ∃ x, identE f.id f.kd = x := ⟨_, rfl⟩
    rw [he1]
    have HE1 := Lib.hid he1
    clear he1 hd1
    by_cases z1 : e1 = 0
    · subst z1
      go_wp2_with fail
      refine (located_any (sb f.rg) f.kd _ HR.out).mono ?_
      rintro e w2 ⟨rfl, hd2⟩
      rw [bl_sb]
      have B2 := Lib.hid (B1.out.below hd2.below)
      have HB2 := Lib.hid (Below.then_ HB1.out hd2.below)
      clear c0 c1 c2 c3 c4 c5 c6
      obtain ⟨c0, c1, c2, c3, c4, c5, c6⟩ := B2.out.cells
      obtain ⟨e2, he2⟩ : ∃ x, locE f.rg f.kd = x := ⟨_, rfl⟩
      rw [he2]
      have HE2 := Lib.hid he2
      clear he2 hd2 HB1 B1
      by_cases z2 : e2 = 0
      · subst z2
        go_wp2_with fail
        refine (valid_any f.lat f.lon _).mono ?_
        rintro e w3 ⟨rfl, hb3⟩
        have B3 := Lib.hid (B2.out.below hb3)
        have HB3 := Lib.hid (Below.then_ HB2.out hb3)
        clear c0 c1 c2 c3 c4 c5 c6
        obtain ⟨c0, c1, c2, c3, c4, c5, c6⟩ := B3.out.cells
        clear hb3 HB2 B2
        cases hp : posB f.lat f.lon
        · have HF := Lib.hid (fixE_pos HK.out HE1.out HE2.out hp)
          clear hp
          go_wp2
          go_ret
          exact .mk HF.out HB3.out
        · have HF := Lib.hid (fixE_rest HK.out HE1.out HE2.out hp)
          have EW := elW f.kd f.el
          obtain ⟨ee, hee⟩ : ∃ x, elE f.kd f.el = x := ⟨_, rfl⟩
          obtain ⟨er, her⟩ : ∃ x, raE f.kd f.ra = x := ⟨_, rfl⟩
          rw [hee] at HF EW
          have RW := raW f.kd f.ra
          rw [her] at HF RW
          clear hp hee her
          rcases EW with ⟨h, h1, e⟩ | ⟨h, h0, h1, e⟩ | ⟨h, h0, h1, e⟩ | ⟨h, h0, e⟩ | ⟨h, h0, e⟩
          case low | high | arg =>
            have HF2 := Lib.hid (HF.out.trans (if_pos (by rw [e]; decide)))
            have HX := Lib.hid e
            have HH := Lib.hid h
            clear e h RW HF
            go_wp2_with fail
            refine (elevated_any f.kd _).mono ?_
            rintro en w4 ⟨rfl, rfl⟩
            rw [HH.out]
            go_wp2
            go_ret
            exact .mk (HF2.out.trans HX.out) HB3.out
          all_goals
            have HF2 := Lib.hid (HF.out.trans (if_neg (by rw [e]; decide)))
            have HH := Lib.hid h
            clear e h HF
            go_wp2_with fail
            refine (elevated_any f.kd _).mono ?_
            rintro en w4 ⟨rfl, rfl⟩
            rw [HH.out]
            go_wp2_with fail
            refine (navaid_any f.kd _).mono ?_
            rintro en w5 ⟨rfl, rfl⟩
            rcases RW with ⟨h, g1, e⟩ | ⟨h, g0, g1, e⟩ | ⟨h, g0, g1, e⟩ | ⟨h, g0, e⟩ | ⟨h, g0, e⟩
            all_goals
              rw [h]
              have HX := Lib.hid e
              clear e h
              go_wp2
              go_ret
              exact .mk (HF2.out.trans HX.out) HB3.out
      · have HF := Lib.hid (fixE_rg HK.out HE1.out (by rw [HE2.out]; exact z2))
        have HX := Lib.hid (HE2.out.symm.trans (locE_5 (by rw [HE2.out]; exact z2)))
        have e3 : (e2 != 0) = true := bne_iff_ne.2 z2
        clear z2
        go_wp2
        go_ret
        exact .mk (HF.out.trans HX.out.symm) HB2.out
    · have HF := Lib.hid (fixE_id HK.out (by rw [HE1.out]; exact z1))
      have HX := Lib.hid (HE1.out.symm.trans (identE_5 (by rw [HE1.out]; exact z1)))
      have e3 : (e1 != 0) = true := bne_iff_ne.2 z1
      clear z1
      go_wp2
      go_ret
      exact .mk (HF.out.trans HX.out.symm) HB1.out
theorem elev_yes {k : Nat} (h : elevB k = true) : (5 : Int) ≤ (k : Int) := by unfold elevB at h; simp at h; omega
theorem elev_no {k : Nat} (h : elevB k = false) (h6 : (k : Int) ≤ 6) : (k : Int) < 5 := by unfold elevB at h; simp at h; omega
theorem nav_ways {k : Nat} {b : Bool} (h : navB k = b) : (b = true ∧ (2 : Int) ≤ (k : Int) ∧ (k : Int) ≤ 4) ∨ (b = false ∧ (k : Int) < 2) ∨ (b = false ∧ (2 : Int) ≤ (k : Int) ∧ 4 < (k : Int)) := by
  subst h
  cases h : navB k
  · unfold navB at h; simp at h
    by_cases h2 : (k : Int) < 2
    · exact .inr (.inl ⟨rfl, h2⟩)
    · exact .inr (.inr ⟨rfl, by omega, by omega⟩)
  · unfold navB at h; simp at h
    exact .inl ⟨rfl, by omega, by omega⟩
set_option maxRecDepth 100000 in
set_option maxHeartbeats 4000000 in
theorem rcheck_any (f : Fx) (w : World) (hi : f.id.length ≤ maxLen) (hr : f.rg.length ≤ maxLen) :
    Calls Tryz.prog 14 #[.agg #[.string (sb f.id), .string (sb f.rg), .int .u8 (f.kd : Int), .int .i64 f.lat, .int .i64 f.lon, .int .i64 f.el, .int .i64 f.ra]] w (CkPost (fixE f) w) := by
  have B0 := Lib.hid (fxBox_new w f)
  have HB0 : Hid (Below w.heap.size w (w.alloc (.cells #[.string (sb f.id), .string (sb f.rg), .int .u8 (f.kd : Int), .int .i64 f.lat, .int .i64 f.lon, .int .i64 f.el, .int .i64 f.ra] 26))) := (Below.refl _ _).alloc (Nat.le_refl _) _
  have hk : f.kd < 1 ∨ (1 ≤ f.kd ∧ 6 < f.kd) ∨ (1 ≤ f.kd ∧ f.kd ≤ 6) := by omega
  rcases hk with k1 | ⟨k1, k2⟩ | ⟨k1, k2⟩
  · have HF := Lib.hid (fixE_kind (f := f) (.inl k1))
    have q1 : (f.kd : Int) < 1 := by omega
    clear k1 hi hr
    go_enter Tryz.func14, Tryz.ntmps14
    go_wp2
    go_ret
    exact .mk HF.out HB0.out
  · have HF := Lib.hid (fixE_kind (f := f) (.inr k2))
    have q1 : (1 : Int) ≤ (f.kd : Int) := by omega
    have q2 : (6 : Int) < (f.kd : Int) := by omega
    clear k1 k2 hi hr
    go_enter Tryz.func14, Tryz.ntmps14
    go_wp2
    go_ret
    exact .mk HF.out HB0.out
  · have HK : Hid (¬ (f.kd < 1 ∨ 6 < f.kd)) := by unfold Hid; omega
    have q1 : (1 : Int) ≤ (f.kd : Int) := by omega
    have q2 : (f.kd : Int) ≤ 6 := by omega
    have HI := Lib.hid hi
    have HR := Lib.hid hr
    clear k1 k2 hi hr
    go_enter Tryz.func14, Tryz.ntmps14
    go_wp2_with fail
    refine (rident_any (sb f.id) f.kd _ HI.out).mono ?_
    rintro e w1 ⟨rfl, hd1⟩
    rw [bl_sb]
    have B1 := Lib.hid (B0.out.below hd1.below)
    have HB1 := Lib.hid (Below.then_ HB0.out hd1.below)
    obtain ⟨c0, c1, c2, c3, c4, c5, c6⟩ := B1.out.cells
    obtain ⟨e1, he1⟩ : ∃ x, identE f.id f.kd = x := ⟨_, rfl⟩
    rw [he1]
    have HE1 := Lib.hid he1
    clear he1 hd1
    by_cases z1 : e1 = 0
    · subst z1
      go_wp2_with fail
      refine (rlocated_any (sb f.rg) f.kd _ HR.out).mono ?_
      rintro e w2 ⟨rfl, hd2⟩
      rw [bl_sb]
      have B2 := Lib.hid (B1.out.below hd2.below)
      have HB2 := Lib.hid (Below.then_ HB1.out hd2.below)
      clear c0 c1 c2 c3 c4 c5 c6
      obtain ⟨c0, c1, c2, c3, c4, c5, c6⟩ := B2.out.cells
      obtain ⟨e2, he2⟩ : ∃ x, locE f.rg f.kd = x := ⟨_, rfl⟩
      rw [he2]
      have HE2 := Lib.hid he2
      clear he2 hd2 HB1 B1
      by_cases z2 : e2 = 0
      · subst z2
        go_wp2_with fail
        refine (rvalid_any f.lat f.lon _).mono ?_
        rintro e w3 ⟨rfl, hb3⟩
        have B3 := Lib.hid (B2.out.below hb3)
        have HB3 := Lib.hid (Below.then_ HB2.out hb3)
        clear c0 c1 c2 c3 c4 c5 c6
        obtain ⟨c0, c1, c2, c3, c4, c5, c6⟩ := B3.out.cells
        clear hb3 HB2 B2
        cases hp : posB f.lat f.lon
        · have HF := Lib.hid (fixE_pos HK.out HE1.out HE2.out hp)
          clear hp
          go_wp2
          go_ret
          exact .mk HF.out HB3.out
        · have HF := Lib.hid (fixE_rest HK.out HE1.out HE2.out hp)
          have EW := elW f.kd f.el
          obtain ⟨ee, hee⟩ : ∃ x, elE f.kd f.el = x := ⟨_, rfl⟩
          obtain ⟨er, her⟩ : ∃ x, raE f.kd f.ra = x := ⟨_, rfl⟩
          rw [hee] at HF EW
          have RW := raW f.kd f.ra
          rw [her] at HF RW
          clear hp hee her
          rcases EW with ⟨h, h1, e⟩ | ⟨h, h0, h1, e⟩ | ⟨h, h0, h1, e⟩ | ⟨h, h0, e⟩ | ⟨h, h0, e⟩
          case low | high | arg =>
            have HF2 := Lib.hid (HF.out.trans (if_pos (by rw [e]; decide)))
            have HX := Lib.hid e
            first | have hk5 := elev_yes h | have hk5 := elev_no h q2
            clear e h RW HF
            go_wp2
            go_ret
            exact .mk (HF2.out.trans HX.out) HB3.out
          all_goals
            have HF2 := Lib.hid (HF.out.trans (if_neg (by rw [e]; decide)))
            first | have hk5 := elev_yes h | have hk5 := elev_no h q2
            clear e h HF
            rcases RW with ⟨h, g1, e⟩ | ⟨h, g0, g1, e⟩ | ⟨h, g0, g1, e⟩ | ⟨h, g0, e⟩ | ⟨h, g0, e⟩
            all_goals
              have HX := Lib.hid e
              have HN := nav_ways h
              clear e h
              rcases HN with ⟨hh, n1, n2⟩ | ⟨hh, n1⟩ | ⟨hh, n1, n2⟩
              all_goals
                first
                  | exact absurd hh (by decide)
                  | (exfalso; omega)
                  | (clear hh
                     go_wp2
                     go_ret
                     exact .mk (HF2.out.trans HX.out) HB3.out)
      · have HF := Lib.hid (fixE_rg HK.out HE1.out (by rw [HE2.out]; exact z2))
        have HX := Lib.hid (HE2.out.symm.trans (locE_5 (by rw [HE2.out]; exact z2)))
        have e3 : (e2 != 0) = true := bne_iff_ne.2 z2
        clear z2
        go_wp2
        go_ret
        exact .mk HF.out HB2.out
    · have HF := Lib.hid (fixE_id HK.out (by rw [HE1.out]; exact z1))
      have HX := Lib.hid (HE1.out.symm.trans (identE_5 (by rw [HE1.out]; exact z1)))
      have e3 : (e1 != 0) = true := bne_iff_ne.2 z1
      clear z1
      go_wp2
      go_ret
      exact .mk HF.out HB1.out
end Go.Proofs.YtempiooclhmeoaaGreatDoor
