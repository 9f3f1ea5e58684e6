/-
  The walk of the law FixFinds.
-/
import Derived.Test.YtempiooclhmeoaaGreatDoorFixF
import Derived.Deep.RegionHeld3
namespace Go.Proofs.YtempiooclhmeoaaGreatDoor
open Go.RowKit
set_option linter.unusedVariables false
set_option linter.unusedSimpArgs false

/-- two boxes of fixes -/
structure Bx2 (w0 : World) (bx bz : Nat) (x y : Fx) (w : World) : Prop where
  b0 : Below w0.heap.size w0 w
  b1 : FxBox w bx x
  b2 : FxBox w bz y
theorem Bx2.then_ {w0 w w' : World} {bx bz : Nat} {x y : Fx} (h : Bx2 w0 bx bz x y w) (hb : Below w.heap.size w w') : Bx2 w0 bx bz x y w' := ⟨Below.then_ h.b0 hb, h.b1.below hb, h.b2.below hb⟩
theorem Bx2.drew {w0 w : World} {bx bz : Nat} {x y : Fx} (h : Bx2 w0 bx bz x y w) : Bx2 w0 bx bz x y w.drew := h.then_ (Below.refl _ _).drew
theorem Bx2.drewN {w0 w : World} {bx bz : Nat} {x y : Fx} (h : Bx2 w0 bx bz x y w) (n : Nat) : Bx2 w0 bx bz x y (w.drewN n) := h.then_ (below_drewN' (Below.refl _ _) n)
set_option maxRecDepth 100000 in
set_option maxHeartbeats 4000000 in
theorem fixFinds_walk (v : Value) (l0 : List Fx) (s : ByteArray) (w : World) (E : Env w) (h : FxsR w v l0) (hz : SzL l0) :
    Calls Tryz.prog 8 #[v, .string s] w fun e w' => e = .returned (.bool true) ∧ Below w.heap.size w w' := by
  have H := Lib.hid h
  clear h
  go_enter Tryz.func8, Tryz.ntmps8
  go_wp2_with fail
  refine (awakeF_any _ E).mono ?_
  rintro e w1 ⟨rfl, hb1⟩
  have HB1 := Lib.hid hb1
  have H1 := Lib.hid (H.out.below hb1)
  clear hb1
  go_wp2_with fail
  refine (few_any v l0 30 _ H1.out (by decide)).mono ?_
  rintro e w2 ⟨v2, rfl, hown, hb2⟩
  have HB2 := Lib.hid (Below.then_ HB1.out hb2)
  obtain ⟨l, hl⟩ : ∃ l, l0.take 30 = l := ⟨_, rfl⟩
  have HL : Hid (l.length ≤ 30) := by unfold Hid; rw [← hl, List.length_take]; omega
  have HZ : Hid (SzL l) := by unfold Hid; rw [← hl]; exact hz.take 30
  rw [hl] at hown
  have H2 : Hid (FxsR w2 v2 l) := Rd.of_own hown
  clear hown hb2 hl hz H H1
  go_wp2_with fail
  refine (find_any v2 l s _ H2.out HZ.out (by have := HL.out; omega)).mono ?_
  rintro e w3 ⟨rfl, hb3⟩
  obtain ⟨o, ho⟩ : ∃ o, findL l (bl s) = o := ⟨_, rfl⟩
  have HO := Lib.hid ho
  rw [ho]
  obtain ⟨F, hF⟩ : ∃ F, o.getD fx0 = F := ⟨_, rfl⟩
  have HF := Lib.hid hF
  obtain ⟨b, hbb⟩ : ∃ b, o.isSome = b := ⟨_, rfl⟩
  have HBB := Lib.hid hbb
  rw [hF, hbb]
  have HB3 := Lib.hid (Below.then_ HB2.out hb3)
  have H3 := Lib.hid (H2.out.below hb3)
  have K3 : Hid (Below w3.heap.size w3 (w3.alloc (.cells #[.string (sb F.id), .string (sb F.rg), .int .u8 (F.kd : Int), .int .i64 F.lat, .int .i64 F.lon, .int .i64 F.el, .int .i64 F.ra] 26))) := (Below.refl _ _).alloc (Nat.le_refl _) _
  have X3 : Hid (FxBox (w3.alloc (.cells #[.string (sb F.id), .string (sb F.rg), .int .u8 (F.kd : Int), .int .i64 F.lat, .int .i64 F.lon, .int .i64 F.el, .int .i64 F.ra] 26)) w3.heap.size F) := fxBox_new w3 F
  have H3' := Lib.hid (H3.out.below K3.out)
  clear ho hF hbb hb3 H2
  go_wp2_with fail
  refine (rfind_any v2 l s _ H3'.out HZ.out (by have := HL.out; omega)).mono ?_
  rintro e w4 ⟨rfl, hb4⟩
  rw [HO.out, HF.out, HBB.out]
  have X4 := Lib.hid (X3.out.below hb4)
  have HB4 := Lib.hid (Below.then_ (Below.then_ HB3.out K3.out) hb4)
  have H4 := Lib.hid (H3'.out.below hb4)
  have K4 : Hid (Below w4.heap.size w4 (w4.alloc (.cells #[.string (sb F.id), .string (sb F.rg), .int .u8 (F.kd : Int), .int .i64 F.lat, .int .i64 F.lon, .int .i64 F.el, .int .i64 F.ra] 26))) := (Below.refl _ _).alloc (Nat.le_refl _) _
  have H4' := Lib.hid (H4.out.below K4.out)
  have HB4' := Lib.hid (Below.then_ HB4.out K4.out)
  obtain ⟨c0, c1, c2, c3, c4, c5, c6⟩ := X4.out.cells
  have hx4 := lt_heap X4.out
  have q2 : (b != b) = false := by simp
  clear hb4
  go_wp2_with fail
  refine (matchF_any v2 l s _ H4'.out (by have := HL.out; omega)).mono ?_
  rintro e w5 ⟨va, rfl, hva, hb5⟩
  have HB5 := Lib.hid (Below.then_ HB4'.out hb5)
  have H5 := Lib.hid (H4'.out.below hb5)
  have VA := Lib.hid hva
  clear hva hb5 c0 c1 c2 c3 c4 c5 c6 hx4
  go_wp2_with fail
  refine (rmatchF_any v2 l s _ H5.out (by have := HL.out; omega)).mono ?_
  rintro e w6 ⟨vb, rfl, hvb, hb6⟩
  have HB6 := Lib.hid (Below.then_ HB5.out hb6)
  have H6 := Lib.hid (H5.out.below hb6)
  have VA6 := Lib.hid (VA.out.below hb6)
  have VB6 := Lib.hid hvb
  clear hvb hb6
  go_wp2_with fail
  refine (sameF_same va vb _ _ VA6.out VB6.out).mono ?_
  rintro e w7 ⟨rfl, hd7⟩
  have HB7 := Lib.hid (Below.then_ HB6.out hd7.below)
  have H7 := Lib.hid (H6.out.below hd7.below)
  clear hd7 VA VA6 VB6 H6 H5 H4 H4' H3 H3'
  obtain ⟨A, c, hv2, hcc, hm⟩ := H7.out.form
  have H8 := H7
  have HZL := HZ
  obtain ⟨n, hn⟩ : ∃ n, l.length = n := ⟨_, rfl⟩
  have HN := Lib.hid hn
  rw [hn] at hv2 hcc
  subst hv2
  have hn30 : n ≤ 30 := by have := HL.out; omega
  clear hn H7
  go_wp2_with fail
  go_loopw [49] (fun i wr => ∃ k : Nat, k ≤ n ∧ i = .int .i64 k ∧ Below w.heap.size w wr ∧ Below w7.heap.size w7 wr) (fun i _ => n - (intOf i).toNat)
  case atStart => exact ⟨0, Nat.zero_le _, rfl, HB7.out, Below.refl _ _⟩
  case round =>
    obtain ⟨k, hk, rfl, hbr, hbr7⟩ := hrel
    have HBR := Lib.hid hbr
    have HBR7 := Lib.hid hbr7
    clear hbr hbr7
    by_cases hlt : k < n
    · have hkl : k < l.length := by rw [HN.out]; exact hlt
      have hR := H8.out.below HBR7.out
      obtain ⟨g, o, c', hA, hg, hat⟩ := hR.at_ hkl
      rw [HN.out] at hA
      simp only [Value.slice.injEq, true_and] at hA
      obtain ⟨rfl, rfl⟩ := hA
      have HS := Lib.hid (HZL.out.get hkl)
      obtain ⟨y, hy1, hy2⟩ := find_self (List.getElem_mem hkl)
      have HSY := Lib.hid (HZL.out y (find_mem hy1))
      obtain ⟨x, hx⟩ : ∃ x, l[k] = x := ⟨_, rfl⟩
      rw [hx] at hat HS hy1 hy2
      have HY1 := Lib.hid hy1
      have HY2 := Lib.hid hy2
      have HR := Lib.hid hR
      obtain ⟨c0, c1, c2, c3, c4, c5, c6⟩ := hat
      have hki : (k : Int) < (n : Int) := by omega
      have K1 : Hid (Below wr.heap.size wr (wr.alloc (.cells #[.string (sb x.id), .string (sb x.rg), .int .u8 (x.kd : Int), .int .i64 x.lat, .int .i64 x.lon, .int .i64 x.el, .int .i64 x.ra] 26))) := (Below.refl _ _).alloc (Nat.le_refl _) _
      have X1 : Hid (FxBox (wr.alloc (.cells #[.string (sb x.id), .string (sb x.rg), .int .u8 (x.kd : Int), .int .i64 x.lat, .int .i64 x.lon, .int .i64 x.el, .int .i64 x.ra] 26)) wr.heap.size x) := fxBox_new wr x
      have R1 := Lib.hid (HR.out.below K1.out)
      have B1 := Lib.hid (Below.then_ HBR.out K1.out)
      have B7 := Lib.hid (Below.then_ HBR7.out K1.out)
      clear hx hy1 hy2 hR
      go_wp2_with fail
      refine (fixRef_any x _ HS.out.1 HS.out.2).mono ?_
      rintro e w8 ⟨rfl, hb8⟩
      have X8 := Lib.hid (X1.out.below hb8)
      have R8 := Lib.hid (R1.out.below hb8)
      have B8 := Lib.hid (Below.then_ B1.out hb8)
      have B78 := Lib.hid (Below.then_ B7.out hb8)
      clear hb8 c0 c1 c2 c3 c4 c5 c6
      go_wp2_with fail
      refine (find_any _ l (sb (fxRef x)) _ R8.out HZL.out (by have := HL.out; omega)).mono ?_
      rintro e w9 ⟨rfl, hb9⟩
      rw [bl_sb, HY1.out]
      have X9 := Lib.hid (X8.out.below hb9)
      have B9 := Lib.hid (Below.then_ B8.out hb9)
      have B79 := Lib.hid (Below.then_ B78.out hb9)
      have Q : Hid (Bx2 w wr.heap.size w9.heap.size x y (w9.alloc (.cells #[.string (sb y.id), .string (sb y.rg), .int .u8 (y.kd : Int), .int .i64 y.lat, .int .i64 y.lon, .int .i64 y.el, .int .i64 y.ra] 26))) :=
        ⟨B9.out.alloc B9.out.size _, X9.out.below ((Below.refl _ _).alloc (Nat.le_refl _) _), fxBox_new w9 y⟩
      have Q7 : Hid (Bx2 w7 wr.heap.size w9.heap.size x y (w9.alloc (.cells #[.string (sb y.id), .string (sb y.rg), .int .u8 (y.kd : Int), .int .i64 y.lat, .int .i64 y.lon, .int .i64 y.el, .int .i64 y.ra] 26))) :=
        ⟨B79.out.alloc B79.out.size _, X9.out.below ((Below.refl _ _).alloc (Nat.le_refl _) _), fxBox_new w9 y⟩
      have HEQ : ((sb (fxRef y)).toList == (sb (fxRef x)).toList) = true := by rw [HY2.out]; simp
      have hxx := lt_heap X9.out
      clear hb9
      show _
      simp only [Option.getD_some, Option.isSome_some]
      obtain ⟨c0, c1, c2, c3, c4, c5, c6⟩ := Q.out.b1.cells
      obtain ⟨d0, d1, d2, d3, d4, d5, d6⟩ := Q.out.b2.cells
      go_wp2_with fail
      go_region_held3 (fun wx => wx.cell? ⟨wr.heap.size, 0, none⟩ = some (.string (sb x.id)) ∧ wx.cell? ⟨wr.heap.size, 1, none⟩ = some (.string (sb x.rg)) ∧ wx.cell? ⟨wr.heap.size, 2, none⟩ = some (.int .u8 (x.kd : Int)) ∧ wx.cell? ⟨wr.heap.size, 3, none⟩ = some (.int .i64 x.lat) ∧ wx.cell? ⟨wr.heap.size, 4, none⟩ = some (.int .i64 x.lon) ∧ wx.cell? ⟨wr.heap.size, 5, none⟩ = some (.int .i64 x.el) ∧ wx.cell? ⟨wr.heap.size, 6, none⟩ = some (.int .i64 x.ra) ∧ wx.cell? ⟨w9.heap.size, 0, none⟩ = some (.string (sb y.id)) ∧ wx.cell? ⟨w9.heap.size, 1, none⟩ = some (.string (sb y.rg)) ∧ wx.cell? ⟨w9.heap.size, 2, none⟩ = some (.int .u8 (y.kd : Int)) ∧ wx.cell? ⟨w9.heap.size, 3, none⟩ = some (.int .i64 y.lat) ∧ wx.cell? ⟨w9.heap.size, 4, none⟩ = some (.int .i64 y.lon) ∧ wx.cell? ⟨w9.heap.size, 5, none⟩ = some (.int .i64 y.el) ∧ wx.cell? ⟨w9.heap.size, 6, none⟩ = some (.int .i64 y.ra))
        (first | go_keep | exact ⟨by assumption, by assumption, by assumption, by assumption, by assumption, by assumption, by assumption, by assumption, by assumption, by assumption, by assumption, by assumption, by assumption, by assumption⟩)
        (first
        | (go_at_call 15; refine (fixRef_any y _ HSY.out.1 HSY.out.2).mono ?_; rintro e w2' ⟨rfl, hb⟩; have Q := Lib.hid (by first | exact Q.out.then_ hb | exact Q.out.drew.then_ hb | exact (Q.out.drewN _).then_ hb : Bx2 w wr.heap.size w9.heap.size x y w2'); have Q7 := Lib.hid (by first | exact Q7.out.then_ hb | exact Q7.out.drew.then_ hb | exact (Q7.out.drewN _).then_ hb : Bx2 w7 wr.heap.size w9.heap.size x y w2'); obtain ⟨c0, c1, c2, c3, c4, c5, c6⟩ := Q.out.b1.cells; obtain ⟨d0, d1, d2, d3, d4, d5, d6⟩ := Q.out.b2.cells; clear hb)
        | (go_at_call 15; refine (fixRef_any x _ HS.out.1 HS.out.2).mono ?_; rintro e w2' ⟨rfl, hb⟩; have Q := Lib.hid (by first | exact Q.out.then_ hb | exact Q.out.drew.then_ hb | exact (Q.out.drewN _).then_ hb : Bx2 w wr.heap.size w9.heap.size x y w2'); have Q7 := Lib.hid (by first | exact Q7.out.then_ hb | exact Q7.out.drew.then_ hb | exact (Q7.out.drewN _).then_ hb : Bx2 w7 wr.heap.size w9.heap.size x y w2'); obtain ⟨c0, c1, c2, c3, c4, c5, c6⟩ := Q.out.b1.cells; obtain ⟨d0, d1, d2, d3, d4, d5, d6⟩ := Q.out.b2.cells; clear hb)
        | fail)
      all_goals
        have QB := Q.out.b0
        have QB7 := Q7.out.b0
        clear c0 c1 c2 c3 c4 c5 c6 d0 d1 d2 d3 d4 d5 d6
        go_wp2
        first
          | exact ⟨⟨k + 1, hlt, by go_num, (by first | exact QB | exact QB.drew | exact below_drewN' QB _), (by first | exact QB7 | exact QB7.drew | exact below_drewN' QB7 _)⟩, by simp [intOf]; omega⟩
          | fail
    · go_wp2
      go_ret
      exact ⟨rfl, HBR.out⟩
end Go.Proofs.YtempiooclhmeoaaGreatDoor
