/-
  Contract: the reference's distance of two positions.
-/
import Derived.Test.YtgnnblkpjankgaaGreatDoorSphD
namespace Go.Proofs.YtgnnblkpjankgaaGreatDoor
open Go.RowKit
set_option linter.unusedVariables false
set_option linter.unusedSimpArgs false
theorem rOf_some (la lo : Int) : ∃ (u : V3) (e : Int), ∀ w, Calls Tryz.prog 77 #[.agg #[.int .i64 la, .int .i64 lo]] w fun x w' => x = .returned (.tuple #[vcV u, .int .i64 e]) ∧ Below w.heap.size w w' := by
  cases h : vldB la lo
  · exact ⟨_, _, fun w => rOf_bad la lo w h⟩
  · exact ⟨_, _, fun w => rOf_ok la lo w h⟩
set_option maxRecDepth 100000 in
set_option maxHeartbeats 4000000 in
theorem rdist_bad (la lo ma mo : Int) (w : World) (h : (vldB la lo && vldB ma mo) = false) :
    Calls Tryz.prog 59 #[.agg #[.int .i64 la, .int .i64 lo], .agg #[.int .i64 ma, .int .i64 mo]] w fun e w' => e = .returned (.tuple #[.int .i64 0, .int .i64 1]) ∧ Below w.heap.size w w' := by
  obtain ⟨W2, hW2⟩ : ∃ W2, (w.alloc (.cells #[.int .i64 la, .int .i64 lo] 51)).alloc (.cells #[.int .i64 ma, .int .i64 mo] 51) = W2 := ⟨_, rfl⟩
  have HB : Hid (Below w.heap.size w W2) := by rw [← hW2]; exact ((Below.refl _ _).alloc (Nat.le_refl _) _).alloc (by simp) _
  have HC : Hid (W2.cell? ⟨w.heap.size, 0, none⟩ = some (.int .i64 la) ∧ W2.cell? ⟨w.heap.size, 1, none⟩ = some (.int .i64 lo) ∧
      W2.cell? ⟨w.heap.size + 1, 0, none⟩ = some (.int .i64 ma) ∧ W2.cell? ⟨w.heap.size + 1, 1, none⟩ = some (.int .i64 mo) ∧ w.heap.size + 1 < W2.heap.size) := by rw [← hW2]; unfold Hid; simp [go_sem]
  obtain ⟨c0, c1, d0, d1, hsz⟩ := HC.out
  have key : ∀ (u v : V3) (eu ev : Int), (eu = 1 ∨ eu = 0 ∧ ev = 1) → (∀ w, Calls Tryz.prog 77 #[.agg #[.int .i64 la, .int .i64 lo]] w fun x w' => x = .returned (.tuple #[vcV u, .int .i64 eu]) ∧ Below w.heap.size w w') →
      (∀ w, Calls Tryz.prog 77 #[.agg #[.int .i64 ma, .int .i64 mo]] w fun x w' => x = .returned (.tuple #[vcV v, .int .i64 ev]) ∧ Below w.heap.size w w') →
      Calls Tryz.prog 59 #[.agg #[.int .i64 la, .int .i64 lo], .agg #[.int .i64 ma, .int .i64 mo]] w fun e w' => e = .returned (.tuple #[.int .i64 0, .int .i64 1]) ∧ Below w.heap.size w w' := by
    intro u v eu ev he o1 o2
    unfold vcV at o1 o2
    go_enter Tryz.func59, Tryz.ntmps59
    go_wp2_with fail
    refine (o1 _).mono ?_
    rintro e w1 ⟨rfl, hb1⟩
    have HE : Hid (Below w.heap.size w w1) := HB.out.trans (hb1.mono HB.out.size)
    have e0 : w1.cell? ⟨w.heap.size + 1, 0, none⟩ = some (.int .i64 ma) := (hb1.cell (p := ⟨w.heap.size + 1, 0, none⟩) hsz).trans d0
    have e1 : w1.cell? ⟨w.heap.size + 1, 1, none⟩ = some (.int .i64 mo) := (hb1.cell (p := ⟨w.heap.size + 1, 1, none⟩) hsz).trans d1
    have hsz1 : w.heap.size + 1 < w1.heap.size := Nat.lt_of_lt_of_le hsz hb1.size
    clear hb1 c0 c1 d0 d1 hsz hW2 HB HC
    go_wp2_with fail
    refine (o2 _).mono ?_
    rintro e w2 ⟨rfl, hb2⟩
    have HE2 : Hid (Below w.heap.size w w2) := by have := HE.out.size; first | exact (HE.out.alloc HE.out.size _).trans (hb2.mono (by simp; omega)) | exact Below.then_ (HE.out.alloc HE.out.size _) hb2
    clear hb2
    have HE3 := Lib.hid (fun o => HE2.out.alloc HE2.out.size o)
    clear o1 o2 HE HE2
    rcases he with rfl | ⟨rfl, rfl⟩
    · go_wp2
      go_ret2
      exact ⟨rfl, HE3.out _⟩
    · go_wp2
      go_ret2
      exact ⟨rfl, HE3.out _⟩
  cases h1 : vldB la lo
  · obtain ⟨v, ev, hv⟩ := rOf_some ma mo
    exact key _ v 1 ev (.inl rfl) (fun w => rOf_bad la lo w h1) hv
  · have h2 : vldB ma mo = false := by rw [h1] at h; exact h
    exact key _ _ 0 1 (.inr ⟨rfl, rfl⟩) (fun w => rOf_ok la lo w h1) (fun w => rOf_bad ma mo w h2)
theorem VecB.last (T : World) (u : V3) (t : TypeId) : VecB T.heap.size u (T.alloc (.cells #[.int .i64 u.x, .int .i64 u.y, .int .i64 u.z] t)) := by
  obtain ⟨h0, h1, h2, _, _, _, hl⟩ := B3.last T u.x u.y u.z t
  exact ⟨h0, h1, h2, hl⟩
theorem VecB.via {b : Nat} {u : V3} {T wa : World} (hb : Below T.heap.size T wa) (h : VecB b u T) : VecB b u wa :=
  ⟨(hb.cell (p := ⟨b, 0, none⟩) h.2.2.2).trans h.1, (hb.cell (p := ⟨b, 1, none⟩) h.2.2.2).trans h.2.1, (hb.cell (p := ⟨b, 2, none⟩) h.2.2.2).trans h.2.2.1, Nat.lt_of_lt_of_le h.2.2.2 hb.size⟩
set_option maxRecDepth 100000 in
set_option maxHeartbeats 40000000 in
theorem rdist_ok (la lo ma mo : Int) (w : World) (h1 : vldB la lo = true) (h2 : vldB ma mo = true) :
    Calls Tryz.prog 59 #[.agg #[.int .i64 la, .int .i64 lo], .agg #[.int .i64 ma, .int .i64 mo]] w fun e w' => e = .returned (.tuple #[.int .i64 (distV (vecOf la lo) (vecOf ma mo)), .int .i64 0]) ∧ Below w.heap.size w w' := by
  obtain ⟨W2, hW2⟩ : ∃ W2, (w.alloc (.cells #[.int .i64 la, .int .i64 lo] 51)).alloc (.cells #[.int .i64 ma, .int .i64 mo] 51) = W2 := ⟨_, rfl⟩
  have HB : Hid (Below w.heap.size w W2) := by rw [← hW2]; exact ((Below.refl _ _).alloc (Nat.le_refl _) _).alloc (by simp) _
  have HC : Hid (W2.cell? ⟨w.heap.size, 0, none⟩ = some (.int .i64 la) ∧ W2.cell? ⟨w.heap.size, 1, none⟩ = some (.int .i64 lo) ∧
      W2.cell? ⟨w.heap.size + 1, 0, none⟩ = some (.int .i64 ma) ∧ W2.cell? ⟨w.heap.size + 1, 1, none⟩ = some (.int .i64 mo) ∧ w.heap.size + 1 < W2.heap.size) := by rw [← hW2]; unfold Hid; simp [go_sem]
  obtain ⟨c0, c1, d0, d1, hsz⟩ := HC.out
  have o1 := fun w => rOf_ok la lo w h1
  have o2 := fun w => rOf_ok ma mo w h2
  obtain ⟨u, hu⟩ : ∃ u, vecOf la lo = u := ⟨_, rfl⟩
  obtain ⟨v, hv⟩ : ∃ v, vecOf ma mo = v := ⟨_, rfl⟩
  have HU : Hid u.Ok := hu ▸ vec_ok la lo
  have HV : Hid v.Ok := hv ▸ vec_ok ma mo
  rw [hu] at o1
  rw [hv] at o2
  rw [hu, hv]
  clear hu hv h1 h2
  obtain ⟨dist, hdist⟩ : ∃ d, distV u v = d := ⟨_, rfl⟩
  have HD := Lib.hid hdist
  rw [hdist]
  clear hdist
  unfold vcV at o1 o2
  go_enter Tryz.func59, Tryz.ntmps59
  go_wp2_with fail
  refine (o1 _).mono ?_
  rintro e w1 ⟨rfl, hb1⟩
  have HE : Hid (Below w.heap.size w w1) := HB.out.trans (hb1.mono HB.out.size)
  have e0 : w1.cell? ⟨w.heap.size + 1, 0, none⟩ = some (.int .i64 ma) := (hb1.cell (p := ⟨w.heap.size + 1, 0, none⟩) hsz).trans d0
  have e1 : w1.cell? ⟨w.heap.size + 1, 1, none⟩ = some (.int .i64 mo) := (hb1.cell (p := ⟨w.heap.size + 1, 1, none⟩) hsz).trans d1
  have hsz1 : w.heap.size + 1 < w1.heap.size := Nat.lt_of_lt_of_le hsz hb1.size
  clear hb1 c0 c1 d0 d1 hsz hW2 HB HC
  have HL1 := Lib.hid (VecB.last w1 u 104)
  go_wp2_with fail
  refine (o2 _).mono ?_
  rintro e w2 ⟨rfl, hb2⟩
  have HU2 : Hid (VecB w1.heap.size u w2) := VecB.via hb2 HL1.out
  have HE2 : Hid (Below w.heap.size w w2) := Below.then_ (HE.out.alloc HE.out.size _) hb2
  clear hb2 HL1 e0 e1 hsz1
  obtain ⟨b1, hb1⟩ : ∃ b, w1.heap.size = b := ⟨_, rfl⟩
  rw [hb1] at HU2 ⊢
  clear hb1 HE w1
  have HU3 : Hid (VecB b1 u (w2.alloc (.cells #[.int .i64 v.x, .int .i64 v.y, .int .i64 v.z] 104))) := VecB.via ((Below.refl _ w2).alloc (Nat.le_refl _) _) HU2.out
  have HV3 : Hid (VecB w2.heap.size v (w2.alloc (.cells #[.int .i64 v.x, .int .i64 v.y, .int .i64 v.z] 104))) := VecB.last w2 v _
  have HE3 : Hid (Below w.heap.size w (w2.alloc (.cells #[.int .i64 v.x, .int .i64 v.y, .int .i64 v.z] 104))) := HE2.out.alloc HE2.out.size _
  have P := pair_ok HU.out HV.out
  have p1 := prod_bd _ _ HU.out.y HV.out.z
  have p2 := prod_bd _ _ HU.out.z HV.out.y
  have p3 := prod_bd _ _ HU.out.z HV.out.x
  have p4 := prod_bd _ _ HU.out.x HV.out.z
  have p5 := prod_bd _ _ HU.out.x HV.out.y
  have p6 := prod_bd _ _ HU.out.y HV.out.x
  obtain ⟨hq1, hq2, hq3, hnz⟩ := P
  have hdo : ∀ W, Calls Tryz.prog 81 #[vcV u, vcV v] W fun e w' => e = .returned (.int .i64 (rnd (u.dot v))) ∧ Below W.heap.size W w' := fun W => rdot_any u v W HU.out HV.out
  obtain ⟨dd, hdd⟩ : ∃ d, rnd (u.dot v) = d := ⟨_, rfl⟩
  have hdb : -2147483647 ≤ dd ∧ dd ≤ 2147483647 := by rw [← hdd]; unfold rnd; omega
  have HD1 : Hid (atZ (isq (rnd (u.c1 v).natAbs * rnd (u.c1 v).natAbs + rnd (u.c2 v).natAbs * rnd (u.c2 v).natAbs + rnd (u.c3 v).natAbs * rnd (u.c3 v).natAbs).toNat) (rnd (u.dot v)) = dist) := HD.out
  rw [hdd] at hdo hnz HD1
  have k1 : u.c1 v = u.y * v.z - u.z * v.y := rfl
  have k2 : u.c2 v = u.z * v.x - u.x * v.z := rfl
  have k3 : u.c3 v = u.x * v.y - u.y * v.x := rfl
  rw [k1, k2, k3] at hq3 hnz HD1
  unfold vcV at hdo
  clear k1 k2 k3 hdd hq1 hq2 HU HV HD o1 o2
  obtain ⟨ux, uy, uz⟩ := u
  obtain ⟨vx, vy, vz⟩ := v
  simp only at p1 p2 p3 p4 p5 p6 hq3 hnz hdo HD1 HU2 HU3 HV3 HE3 ⊢
  obtain ⟨a1, ha1⟩ : ∃ a, uy * vz = a := ⟨_, rfl⟩
  obtain ⟨a2, ha2⟩ : ∃ a, uz * vy = a := ⟨_, rfl⟩
  obtain ⟨a3, ha3⟩ : ∃ a, uz * vx = a := ⟨_, rfl⟩
  obtain ⟨a4, ha4⟩ : ∃ a, ux * vz = a := ⟨_, rfl⟩
  obtain ⟨a5, ha5⟩ : ∃ a, ux * vy = a := ⟨_, rfl⟩
  obtain ⟨a6, ha6⟩ : ∃ a, uy * vx = a := ⟨_, rfl⟩
  rw [ha1, ha2, ha3, ha4, ha5, ha6] at hq3 hnz HD1
  rw [ha1] at p1
  rw [ha2] at p2
  rw [ha3] at p3
  rw [ha4] at p4
  rw [ha5] at p5
  rw [ha6] at p6
  have R1 := fun W => rpart_any (a1 - a2) W (by omega) (by omega)
  have R2 := fun W => rpart_any (a3 - a4) W (by omega) (by omega)
  have R3 := fun W => rpart_any (a5 - a6) W (by omega) (by omega)
  have n1 : 0 ≤ rnd ((a1 - a2).natAbs : Int) ∧ rnd ((a1 - a2).natAbs : Int) ≤ 2147483648 := by unfold rnd; omega
  have n2 : 0 ≤ rnd ((a3 - a4).natAbs : Int) ∧ rnd ((a3 - a4).natAbs : Int) ≤ 2147483648 := by unfold rnd; omega
  have n3 : 0 ≤ rnd ((a5 - a6).natAbs : Int) ∧ rnd ((a5 - a6).natAbs : Int) ≤ 2147483648 := by unfold rnd; omega
  obtain ⟨m1, hm1⟩ : ∃ m, rnd ((a1 - a2).natAbs : Int) = m := ⟨_, rfl⟩
  obtain ⟨m2, hm2⟩ : ∃ m, rnd ((a3 - a4).natAbs : Int) = m := ⟨_, rfl⟩
  obtain ⟨m3, hm3⟩ : ∃ m, rnd ((a5 - a6).natAbs : Int) = m := ⟨_, rfl⟩
  rw [hm1] at n1 R1
  rw [hm2] at n2 R2
  rw [hm3] at n3 R3
  rw [hm1, hm2, hm3] at hq3 hnz HD1
  clear hm1 hm2 hm3
  have z1 := sq_nonneg m1
  have z2 := sq_nonneg m2
  have z3 := sq_nonneg m3
  have y1 : m1 * m1 = 0 → m1 = 0 := fun h => by rcases Int.mul_eq_zero.1 h with h | h <;> exact h
  have y2 : m2 * m2 = 0 → m2 = 0 := fun h => by rcases Int.mul_eq_zero.1 h with h | h <;> exact h
  have y3 : m3 * m3 = 0 → m3 = 0 := fun h => by rcases Int.mul_eq_zero.1 h with h | h <;> exact h
  obtain ⟨q1, hs1⟩ : ∃ a, m1 * m1 = a := ⟨_, rfl⟩
  obtain ⟨q2, hs2⟩ : ∃ a, m2 * m2 = a := ⟨_, rfl⟩
  obtain ⟨q3, hs3⟩ : ∃ a, m3 * m3 = a := ⟨_, rfl⟩
  rw [hs1] at z1 y1
  rw [hs2] at z2 y2
  rw [hs3] at z3 y3
  rw [hs1, hs2, hs3] at hq3 HD1
  obtain ⟨N, hN⟩ : ∃ N : Nat, (N : Int) = q1 + q2 + q3 := ⟨(q1 + q2 + q3).toNat, by omega⟩
  have hNt : (q1 + q2 + q3).toNat = N := by omega
  rw [hNt] at HD1
  have SQ := fun W => rsqrt_any N W (by omega)
  have hrb : (isq N : Int) ≤ 2147483647 := by have := isq_bd (n := N) (by omega); omega
  have hr0 : 0 ≤ (isq N : Int) := by omega
  have AT := fun W => ratan_any (isq N : Int) dd W hr0 hrb hdb.1 hdb.2 (fun ⟨h1, h2⟩ => hnz (by
    have h3 : N = 0 := isq_zero (by omega)
    exact ⟨y1 (by omega), y2 (by omega), y3 (by omega), h1⟩))
  rw [HD1.out] at AT
  obtain ⟨r, hr⟩ : ∃ r, (isq N : Int) = r := ⟨_, rfl⟩
  rw [hr] at AT SQ
  rw [hN] at SQ
  clear HD1 hnz hrb hr0 hr y1 y2 y3 hN hNt hdb
  obtain ⟨c0, c1, c2, c3⟩ := HU2.out
  simp only at c0 c1 c2
  go_wp2_with fail
  refine (R1 _).mono ?_
  rintro e w3 ⟨rfl, hw3⟩
  subst hw3
  go_wp2_with fail
  refine (R2 _).mono ?_
  rintro e w3 ⟨rfl, hw3⟩
  subst hw3
  go_wp2_with fail
  refine (R3 _).mono ?_
  rintro e w3 ⟨rfl, hw3⟩
  have F0 := fun p => (HU3.out.by p).1
  have F1 := fun p => (HU3.out.by p).2.1
  have F2 := fun p => (HU3.out.by p).2.2
  have G0 := fun p => (HV3.out.by p).1
  have G1 := fun p => (HV3.out.by p).2.1
  have G2 := fun p => (HV3.out.by p).2.2
  have g1 : IntKind.i64.wrap q1 = q1 := by rw [IntKind.wrap_i64]; omega
  have g2 : IntKind.i64.wrap q2 = q2 := by rw [IntKind.wrap_i64]; omega
  have g3 : IntKind.i64.wrap q3 = q3 := by rw [IntKind.wrap_i64]; omega
  have g4 : IntKind.i64.wrap (q1 + q2) = q1 + q2 := by rw [IntKind.wrap_i64]; omega
  have g5 : IntKind.i64.wrap (q1 + q2 + q3) = q1 + q2 + q3 := by rw [IntKind.wrap_i64]; omega
  have HEE := HE3
  have mixed := mixedD
  simp only at F0 F1 F2 G0 G1 G2
  rw [hw3] at F0 F1 F2 G0 G1 G2 HEE
  clear hw3 HU3 HV3 HE3 HU2
  go_wp2_with fail
  refine wp_region_quiet_bel (by assumption) (by kernel_rfl) ?_
  repeat (quiet_step (first
    | (go_at_call 80; exact Calls.bel_same (SQ _))
    | (go_at_call 81; exact Calls.bel_of (hdo _))
    | (go_at_call 79; exact Calls.bel_of (AT _))))
  refine wpQuiet_nil ?_
  rintro wz ⟨pz, hz⟩
  have HF : Hid (Below w.heap.size w wz) := by rw [hz]; exact Below.then_ HEE.out pz.h
  clear hz pz F0 F1 F2 G0 G1 G2
  go_wp2
  go_ret2
  exact ⟨rfl, HF.out⟩
end Go.Proofs.YtgnnblkpjankgaaGreatDoor
