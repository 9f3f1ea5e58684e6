/-
  The walk of the law AirwayProves.
-/
import Derived.Test.YtgnnblkpjankgaaGreatDoorMCk
import Derived.Test.YtgnnblkpjankgaaGreatDoorAwAwake
namespace Go.Proofs.YtgnnblkpjankgaaGreatDoor
open Go.RowKit Go.Lib
set_option linter.unusedVariables false
set_option linter.unusedSimpArgs false
theorem ck_nil {hp : Rf → List Hp} {wt : Rf → Rf → Int} (a b : Rf) (n : Int) : ckWay hp wt a b ⟨[], n, []⟩ = 4 := by
  unfold ckWay
  rw [if_neg (by show ¬ (true = false); simp), if_pos (by show none ≠ some 0; simp)]
theorem LbsR.nil (w : World) : LbsR w (.slice none 0 0) [] := Rd.nil w 3
set_option maxRecDepth 100000 in
set_option maxHeartbeats 8000000 in
theorem airwayProves_walk (v fv : Value) (L : List Aw) (F : List Fx) (a b : ByteArray) (w : World) (E : Env w) (h : AwsR w v L) (hf : FxsR w fv F) (hz : SzL F) (ha : a.size ≤ maxLen) (hb : b.size ≤ maxLen) :
    Calls Tryz.prog 6 #[v, fv, .agg #[.string a, .string b]] w fun e w' => e = .returned (.bool true) ∧ Below w.heap.size w w' := by
  have H := Lib.hid h
  have HF := Lib.hid hf
  have HZ := Lib.hid hz
  obtain ⟨s, rfl⟩ : ∃ s, a = sb s := ⟨bl a, (sb_bl a).symm⟩
  obtain ⟨t, rfl⟩ : ∃ t, b = sb t := ⟨bl b, (sb_bl b).symm⟩
  have hsl : s.length ≤ maxLen := ha
  have htl : t.length ≤ maxLen := hb
  obtain ⟨w0, hw0⟩ : ∃ W, w.alloc (.cells #[.string (sb s), .string (sb t)] 35) = W := ⟨_, rfl⟩
  have B0 : Hid (Below w.heap.size w w0) := by rw [← hw0]; exact (Below.refl _ _).alloc (Nat.le_refl _) _
  have C0 : Hid (w0.cell? ⟨w.heap.size, 0, none⟩ = some (.string (sb s)) ∧ w0.cell? ⟨w.heap.size, 1, none⟩ = some (.string (sb t)) ∧ w.heap.size < w0.heap.size) := by rw [← hw0]; unfold Hid; simp [go_sem]
  clear h hf hz
  go_enter Tryz.func6, Tryz.ntmps6
  go_wp2_with fail
  try rw [hw0]
  clear hw0
  refine (awake_any _ (E.below B0.out)).mono ?_
  rintro e w1 ⟨rfl, hb1⟩
  have B1 := Lib.hid (Below.then_ B0.out hb1)
  have C1 : Hid (w1.cell? ⟨w.heap.size, 0, none⟩ = some (.string (sb s)) ∧ w1.cell? ⟨w.heap.size, 1, none⟩ = some (.string (sb t)) ∧ w.heap.size < w1.heap.size) :=
    ⟨(hb1.cell (p := ⟨w.heap.size, 0, none⟩) C0.out.2.2).trans C0.out.1, (hb1.cell (p := ⟨w.heap.size, 1, none⟩) C0.out.2.2).trans C0.out.2.1, Nat.lt_of_lt_of_le C0.out.2.2 hb1.size⟩
  clear B0 C0 hb1
  obtain ⟨c0, c1, clt⟩ := C1.out
  go_wp2_with fail
  refine (shortest_any v fv L F (sb s) (sb t) _ (H.out.below B1.out) (HF.out.below B1.out) HZ.out ha hb).mono ?_
  rintro e w2 ⟨f, hv, lv, m, er, rfl, hb2, hpost⟩
  rw [bl_sb, bl_sb] at hpost
  have B2 := Lib.hid (Below.then_ B1.out hb2)
  have C2 : Hid (w2.cell? ⟨w.heap.size, 0, none⟩ = some (.string (sb s)) ∧ w2.cell? ⟨w.heap.size, 1, none⟩ = some (.string (sb t)) ∧ w.heap.size < w2.heap.size) :=
    ⟨(hb2.cell (p := ⟨w.heap.size, 0, none⟩) clt).trans c0, (hb2.cell (p := ⟨w.heap.size, 1, none⟩) clt).trans c1, Nat.lt_of_lt_of_le clt hb2.size⟩
  clear c0 c1 clt C1 B1 hb2
  rcases hpost with ⟨her, rfl, rfl, rfl, hopx⟩ | ⟨rfl, hop, htR, hle, hm, hhv, hlv⟩
  case inl =>
    have HOP := Lib.hid hopx
    have HER := Lib.hid her
    obtain ⟨w3, hw3⟩ : ∃ W, w2.alloc (.cells #[.slice none 0 0, .int .i64 0, .slice none 0 0] 27) = W := ⟨_, rfl⟩
    have HW3 := Lib.hid hw3
    have B23 : Hid (Below w2.heap.size w2 w3) := by rw [← hw3]; exact (Below.refl _ _).alloc (Nat.le_refl _) _
    have B3 := Lib.hid (Below.then_ B2.out B23.out)
    have C3 : Hid (w3.cell? ⟨w2.heap.size, 0, none⟩ = some (.slice none 0 0) ∧ w3.cell? ⟨w2.heap.size, 1, none⟩ = some (.int .i64 0) ∧ w3.cell? ⟨w2.heap.size, 2, none⟩ = some (.slice none 0 0)) := by rw [← hw3]; unfold Hid; simp [go_sem]
    obtain ⟨c0, c1, clt⟩ := C2.out
    have d0 := (B23.out.cell (p := ⟨w.heap.size, 0, none⟩) clt).trans c0
    have d1 := (B23.out.cell (p := ⟨w.heap.size, 1, none⟩) clt).trans c1
    clear hw3 hopx her
    obtain ⟨x0, x1, x2⟩ := C3.out
    go_wp2_with fail
    rw [HW3.out]
    clear c0 c1 clt
    refine (checkWay_any v fv (.slice none 0 0) (.slice none 0 0) L F (sb s) (sb t) ⟨[], 0, []⟩ _ (H.out.below B3.out) (HF.out.below B3.out) HZ.out ha hb (HpsR.nil _).1 (LbsR.nil _) (by simp) (by simp) (by simp) (by simp)).mono ?_
    rintro e w4 ⟨er2, hop2, rfl, hb4⟩
    rw [bl_sb, bl_sb] at hop2
    rw [bl_sb, bl_sb, ck_nil]
    have B4 := Lib.hid (Below.then_ B3.out hb4)
    have e0 : (er != 0) = true := bne_iff_ne.2 HER.out
    rcases HOP.out with ho | ⟨ho, _, rfl⟩
    · obtain rfl := OpenIs.uniq hop2 ho
      rw [if_neg HER.out]
      have e1 : (er2 == er2) = true := beq_self_eq_true _
      clear hop2 hb4 ho
      go_wp2_with fail
      try go_quiet (fail)
      go_wp2
      go_ret
      exact ⟨rfl, by first | exact B4.out | exact below_drewN' B4.out _⟩
    · obtain rfl := OpenIs.uniq hop2 ho
      rw [if_pos rfl]
      clear hop2 hb4 ho
      go_wp2_with fail
      try go_quiet (fail)
      go_wp2
      go_ret
      exact ⟨rfl, by first | exact B4.out | exact below_drewN' B4.out _⟩
  case inr =>
    have HOP := Lib.hid hop
    have HLE := Lib.hid hle
    have hc0 := hop.zero.1
    have hrl := reach_len hc0 s
    have hft := hle.bd t htR
    obtain ⟨_, _, _, k4⟩ := wayTo_ok (refs := reachL L s) (fun v => Iff.rfl) hle.opt htR
    have hck : ∀ n, ckWay (hopsL L) (wtF F) s t ⟨wayTo (hopsL L) (wtF F) f (reachL L s) t, n, labsOf (reachL L s) f⟩ = if n = (f t).1 then 0 else 1 := fun n =>
      ck_short (fun v => Iff.rfl) (fun i hi => reach_asc L s hi) hle.opt (fun v hv => by have := hle.bd v hv; omega) (fun u v => wtF_bd F u v) htR n
    have hlf : ∀ x ∈ labsOf (reachL L s) f, x.1.length ≤ maxLen := fun x hx => by
      unfold labsOf at hx
      rw [List.mem_map] at hx
      obtain ⟨r, hr, rfl⟩ := hx
      exact reach_fit hc0 hsl r hr
    have hlb : ∀ x ∈ labsOf (reachL L s) f, -9223372036854775808 ≤ x.2.1 ∧ x.2.1 ≤ 9223372036854775807 := fun x hx => by
      unfold labsOf at hx
      rw [List.mem_map] at hx
      obtain ⟨r, hr, rfl⟩ := hx
      have := hle.bd r hr
      show _ ≤ (f r).1 ∧ (f r).1 ≤ _
      omega
    have hln : (labsOf (reachL L s) f).length ≤ 100000000000 := by unfold labsOf; rw [List.length_map]; omega
    have hhn : (wayTo (hopsL L) (wtF F) f (reachL L s) t).length ≤ 100000000000 := by omega
    have hm0 : 0 ≤ m ∧ m ≤ 155584800000 := by rw [hm]; exact ⟨hft.1, hft.2.1⟩
    rw [← hm] at hck
    have HCK := Lib.hid hck
    have HLF := Lib.hid hlf
    have HLB := Lib.hid hlb
    have HLN := Lib.hid hln
    have HHN := Lib.hid hhn
    obtain ⟨W, hW⟩ : ∃ W, wayTo (hopsL L) (wtF F) f (reachL L s) t = W := ⟨_, rfl⟩
    obtain ⟨lb, hlbe⟩ : ∃ l, labsOf (reachL L s) f = l := ⟨_, rfl⟩
    rw [hW] at hhv HHN
    rw [hlbe] at hlv HLF HLB HLN
    have HCK2 : Hid (∀ n, ckWay (hopsL L) (wtF F) s t ⟨W, n, lb⟩ = if n = m then 0 else 1) := by
      unfold Hid; rw [← hW, ← hlbe]; exact HCK.out
    have HHV := Lib.hid hhv
    have HLV := Lib.hid hlv
    obtain ⟨w3, hw3⟩ : ∃ W, w2.alloc (.cells #[hv, .int .i64 m, lv] 27) = W := ⟨_, rfl⟩
    have HW3 := Lib.hid hw3
    have B23 : Hid (Below w2.heap.size w2 w3) := by rw [← hw3]; exact (Below.refl _ _).alloc (Nat.le_refl _) _
    obtain ⟨Ah, ch, rfl, _, _⟩ := hhv.form
    obtain ⟨Al, cl, rfl, _, _⟩ := hlv.form2
    obtain ⟨nw, hnw⟩ : ∃ k, W.length = k := ⟨_, rfl⟩
    obtain ⟨nl, hnl⟩ : ∃ k, lb.length = k := ⟨_, rfl⟩
    rw [hnw] at HHV HW3 ⊢
    rw [hnl] at HLV HW3 ⊢
    rw [hnw, hnl] at hw3
    have HNW := Lib.hid hnw
    have HNL := Lib.hid hnl
    have C3 : Hid (w3.cell? ⟨w2.heap.size, 0, none⟩ = some (.slice Ah nw ch) ∧ w3.cell? ⟨w2.heap.size, 1, none⟩ = some (.int .i64 m) ∧ w3.cell? ⟨w2.heap.size, 2, none⟩ = some (.slice Al nl cl) ∧ w3.frozen? ⟨w2.heap.size, 1, none⟩ = false ∧ w2.heap.size < w3.heap.size) := by rw [← hw3]; unfold Hid; simp [go_sem]
    have B3 := Lib.hid (Below.then_ B2.out B23.out)
    obtain ⟨c0, c1, clt⟩ := C2.out
    have d0 := (B23.out.cell (p := ⟨w.heap.size, 0, none⟩) clt).trans c0
    have d1 := (B23.out.cell (p := ⟨w.heap.size, 1, none⟩) clt).trans c1
    obtain ⟨x0, x1, x2, xf, xlt⟩ := C3.out
    have HDL : Hid (w.heap.size < w3.heap.size) := Nat.lt_of_lt_of_le clt B23.out.size
    have HCL := Lib.hid clt
    clear hw3 hop hle htR hck hlf hlb hln hhn hW hlbe hhv hlv hnw hnl HCK hft hm k4 hrl hc0
    go_wp2_with fail
    rw [HW3.out]
    clear c0 c1 clt
    refine (checkWay_any v fv (.slice Ah nw ch) (.slice Al nl cl) L F (sb s) (sb t) ⟨W, m, lb⟩ _ (H.out.below B3.out) (HF.out.below B3.out) HZ.out ha hb (HHV.out.below B23.out).1 (HLV.out.below2 B23.out) HLF.out HLB.out HHN.out HLN.out).mono ?_
    rintro e w4 ⟨er2, hop2, rfl, hb4⟩
    rw [bl_sb, bl_sb] at hop2
    rw [bl_sb, bl_sb]
    obtain rfl := OpenIs.uniq hop2 HOP.out
    rw [if_pos rfl, HCK2.out, if_pos rfl]
    have B34 := Lib.hid hb4
    have B4 := Lib.hid (Below.then_ B3.out hb4)
    have y0 := (hb4.cell (p := ⟨w2.heap.size, 0, none⟩) xlt).trans x0
    have y1 := (hb4.cell (p := ⟨w2.heap.size, 1, none⟩) xlt).trans x1
    have y2 := (hb4.cell (p := ⟨w2.heap.size, 2, none⟩) xlt).trans x2
    have yf := (hb4.frozen (p := ⟨w2.heap.size, 1, none⟩) xlt).trans xf
    have e0' := (hb4.cell (p := ⟨w.heap.size, 0, none⟩) HDL.out).trans d0
    have e1' := (hb4.cell (p := ⟨w.heap.size, 1, none⟩) HDL.out).trans d1
    obtain ⟨w5, hw5⟩ : ∃ W, w4.setCell ⟨w2.heap.size, 1, none⟩ (.int .i64 (m + 1)) = W := ⟨_, rfl⟩
    have HW5 := Lib.hid hw5
    have ne0 : (⟨w2.heap.size, 1, none⟩ : Addr) ≠ ⟨w2.heap.size, 0, none⟩ := by intro e; injection e with _ e _; omega
    have ne2 : (⟨w2.heap.size, 1, none⟩ : Addr) ≠ ⟨w2.heap.size, 2, none⟩ := by intro e; injection e with _ e _; omega
    have na : ∀ j, (⟨w2.heap.size, 1, none⟩ : Addr) ≠ ⟨w.heap.size, j, none⟩ := by intro j e; injection e with e _ _; have := HCL.out; omega
    have z0 : w5.cell? ⟨w2.heap.size, 0, none⟩ = some (.slice Ah nw ch) := by rw [← hw5, World.cell?_setCell_other _ _ _ _ ne0]; exact y0
    have z1 : w5.cell? ⟨w2.heap.size, 1, none⟩ = some (.int .i64 (m + 1)) := by rw [← hw5]; exact World.cell?_setCell_same _ _ _ y1
    have z2 : w5.cell? ⟨w2.heap.size, 2, none⟩ = some (.slice Al nl cl) := by rw [← hw5, World.cell?_setCell_other _ _ _ _ ne2]; exact y2
    have u0 : w5.cell? ⟨w.heap.size, 0, none⟩ = some (.string (sb s)) := by rw [← hw5, World.cell?_setCell_other _ _ _ _ (na 0)]; exact e0'
    have u1 : w5.cell? ⟨w.heap.size, 1, none⟩ = some (.string (sb t)) := by rw [← hw5, World.cell?_setCell_other _ _ _ _ (na 1)]; exact e1'
    have B25 : Hid (Below w2.heap.size w2 w5) := by rw [← hw5]; exact (Below.then_ B23.out B34.out).setCell (Nat.le_refl _) _
    have B5 := Lib.hid (Below.then_ B2.out B25.out)
    have e3 : ¬ (m < 0) := by omega
    have e4 : IntKind.i64.wrap (m + 1) = m + 1 := IntWalk.i64_in _ (by omega)
    have hcl2 := HCL.out
    clear hop2 hb4 x0 x1 x2 xf xlt d0 d1 hw5
    go_wp2_with fail
    rw [HW5.out]
    clear y0 y1 y2 yf e0' e1' ne0 ne2 na hcl2
    refine (checkWay_any v fv (.slice Ah nw ch) (.slice Al nl cl) L F (sb s) (sb t) ⟨W, m + 1, lb⟩ _ (H.out.below B5.out) (HF.out.below B5.out) HZ.out ha hb (HHV.out.below B25.out).1 (HLV.out.below2 B25.out) HLF.out HLB.out HHN.out HLN.out).mono ?_
    rintro e w6 ⟨er3, hop3, rfl, hb6⟩
    rw [bl_sb, bl_sb] at hop3
    rw [bl_sb, bl_sb]
    obtain rfl := OpenIs.uniq hop3 HOP.out
    rw [if_pos rfl, HCK2.out, if_neg (by omega)]
    have B6 := Lib.hid (Below.then_ B5.out hb6)
    clear hop3 hb6
    go_wp2
    go_ret
    exact ⟨rfl, B6.out⟩
end Go.Proofs.YtgnnblkpjankgaaGreatDoor
