/-
  Contract: how two procedures compare.
-/
import Derived.Test.YtfdhinbojbohcaaGreatDoorProP
import Derived.Test.YtfdhinbojbohcaaGreatDoorMG15
namespace Go.Proofs.YtfdhinbojbohcaaGreatDoor
open Go.RowKit
set_option linter.unusedVariables false
set_option linter.unusedSimpArgs false
theorem cmpB_eq : ∀ (a b : List UInt8), Lib.compareBytes a b = cmpS a b
  | [], [] => by simp [Lib.compareBytes, cmpS]
  | [], b :: bs => by simp [Lib.compareBytes, cmpS]
  | a :: al, [] => by simp [Lib.compareBytes, cmpS]
  | a :: al, b :: bl2 => by
    show (if a < b then -1 else if b < a then 1 else Lib.compareBytes al bl2) = _
    rw [cmpB_eq al bl2]
    unfold cmpS
    simp only [List.cons_lt_cons_iff]
    by_cases h1 : a < b
    · simp [h1]
    · by_cases h2 : b < a
      · have hne : ¬ a = b := fun e => by subst e; exact h1 h2
        simp [h1, h2, hne]
      · have he : a = b := UInt8.le_antisymm (UInt8.not_lt.1 h2) (UInt8.not_lt.1 h1)
        subst he
        simp [h1]
theorem cmpStrings_any (a b : List UInt8) (w : World) : Calls Tryz.prog 78 #[.string (sb a), .string (sb b)] w fun e w' => e = .returned (.int .i64 (cmpS a b)) ∧ Below w.heap.size w w' := by
  refine (Tryz.strings_Compare (sb a) (sb b) w).mono ?_
  rintro e w' ⟨rfl, rfl⟩
  refine ⟨?_, Below.refl _ _⟩
  have h := cmpB_eq (bl (sb a)) (bl (sb b))
  rw [bl_sb, bl_sb] at h
  rw [← h]; rfl
theorem isNaNk_any (k : Nat) (w : World) : Calls Tryz.prog 123 #[.int .u8 (k : Int)] w fun e w' => e = .returned (.bool false) ∧ w' = w := by
  go_enter Tryz.func123, Tryz.ntmps123
  go_wp2
  go_ret
  exact ⟨by simp, rfl⟩
def cmpN (a b : Nat) : Int := if a < b then -1 else if b < a then 1 else 0
theorem cmpKind_any (a b : Nat) (w : World) : Calls Tryz.prog 79 #[.int .u8 (a : Int), .int .u8 (b : Int)] w fun e w' => e = .returned (.int .i64 (cmpN a b)) ∧ Below w.heap.size w w' := by
  have HV : Hid (cmpN a b = if a < b then -1 else if b < a then 1 else 0) := rfl
  have n1 := isNaNk_any a
  have n2 := isNaNk_any b
  rcases Nat.lt_trichotomy a b with h | h | h
  · have c1 : (a : Int) < (b : Int) := by omega
    have HE : Hid (cmpN a b = -1) := by unfold Hid; rw [HV.out, if_pos h]
    clear h
    go_enter Tryz.func79, Tryz.ntmps79
    go_wp2_with fail
    refine (n1 _).mono ?_
    rintro e w1 ⟨rfl, rfl⟩
    go_wp2_with fail
    refine (n2 _).mono ?_
    rintro e w1 ⟨rfl, rfl⟩
    go_wp2
    go_ret
    exact ⟨ret_int HE.out.symm, Below.refl _ _⟩
  · have c1 : ¬ (a : Int) < (b : Int) := by omega
    have c2 : ¬ (b : Int) < (a : Int) := by omega
    have HE : Hid (cmpN a b = 0) := by unfold Hid; rw [HV.out, if_neg (by omega), if_neg (by omega)]
    clear h
    go_enter Tryz.func79, Tryz.ntmps79
    go_wp2_with fail
    refine (n1 _).mono ?_
    rintro e w1 ⟨rfl, rfl⟩
    go_wp2_with fail
    refine (n2 _).mono ?_
    rintro e w1 ⟨rfl, rfl⟩
    go_wp2
    go_ret
    exact ⟨ret_int HE.out.symm, Below.refl _ _⟩
  · have c1 : ¬ (a : Int) < (b : Int) := by omega
    have c2 : (b : Int) < (a : Int) := by omega
    have HE : Hid (cmpN a b = 1) := by unfold Hid; rw [HV.out, if_neg (by omega), if_pos h]
    clear h
    go_enter Tryz.func79, Tryz.ntmps79
    go_wp2_with fail
    refine (n1 _).mono ?_
    rintro e w1 ⟨rfl, rfl⟩
    go_wp2_with fail
    refine (n2 _).mono ?_
    rintro e w1 ⟨rfl, rfl⟩
    go_wp2
    go_ret
    exact ⟨ret_int HE.out.symm, Below.refl _ _⟩
set_option maxHeartbeats 1000000 in
theorem cmpOr_any (g : Nat) (a b c : Int) (w : World) (h0 : w.cell? ⟨g, 0, none⟩ = some (.int .i64 a)) (h1 : w.cell? ⟨g, 1, none⟩ = some (.int .i64 b)) (h2 : w.cell? ⟨g, 2, none⟩ = some (.int .i64 c)) (hg : g < w.heap.size) :
    Calls Tryz.prog 77 #[.slice (some ⟨g, 0, none⟩) 3 3] w fun e w' => e = .returned (.int .i64 (if a ≠ 0 then a else if b ≠ 0 then b else c)) ∧ w = w' := by
  obtain ⟨R, hR⟩ : ∃ R : Int, (if a ≠ 0 then a else if b ≠ 0 then b else c) = R := ⟨_, rfl⟩
  have HR := Lib.hid hR
  rw [hR]
  clear hR
  go_enter Tryz.func77, Tryz.ntmps77
  go_wp2
  go_loopw [8] (fun iv wr => w = wr ∧ ((iv = .int .i64 0 ∧ Hid True) ∨ (iv = .int .i64 1 ∧ Hid (a = 0)) ∨ (iv = .int .i64 2 ∧ Hid (a = 0 ∧ b = 0)) ∨ (iv = .int .i64 3 ∧ Hid (a = 0 ∧ b = 0 ∧ c = 0)))) (fun iv _ => 3 - (intOf iv).toNat)
  case atStart => exact ⟨rfl, .inl ⟨rfl, trivial⟩⟩
  case round =>
    obtain ⟨rfl, ⟨rfl, hx⟩ | ⟨rfl, hx⟩ | ⟨rfl, hx⟩ | ⟨rfl, hx⟩⟩ := hrel
    · by_cases ha : a = 0
      · have e : (a != 0) = false := by simp [ha]
        have HX := Lib.hid ha
        clear ha hx
        go_wp2
        go_roundw
        case rel => exact ⟨by first | rfl | trivial, .inr (.inl ⟨by first | rfl | go_num, HX⟩)⟩
        case measure => simp [intOf]
      · have e : (a != 0) = true := bne_iff_ne.2 ha
        have HE : Hid (R = a) := by unfold Hid; rw [← HR.out, if_pos ha]
        clear ha
        go_wp2
        go_ret
        exact ⟨ret_int HE.out.symm, rfl⟩
    · by_cases ha : b = 0
      · have e : (b != 0) = false := by simp [ha]
        have HX : Hid (a = 0 ∧ b = 0) := ⟨hx.out, ha⟩
        clear ha hx
        go_wp2
        go_roundw
        case rel => exact ⟨by first | rfl | trivial, .inr (.inr (.inl ⟨by first | rfl | go_num, HX⟩))⟩
        case measure => simp [intOf]
      · have e : (b != 0) = true := bne_iff_ne.2 ha
        have HE : Hid (R = b) := by unfold Hid; rw [← HR.out, if_neg (by simp [hx.out]), if_pos ha]
        clear ha
        go_wp2
        go_ret
        exact ⟨ret_int HE.out.symm, rfl⟩
    · by_cases ha : c = 0
      · have e : (c != 0) = false := by simp [ha]
        have HX : Hid (a = 0 ∧ b = 0 ∧ c = 0) := ⟨hx.out.1, hx.out.2, ha⟩
        clear ha hx
        go_wp2
        go_roundw
        case rel => exact ⟨by first | rfl | trivial, .inr (.inr (.inr ⟨by first | rfl | go_num, HX⟩))⟩
        case measure => simp [intOf]
      · have e : (c != 0) = true := bne_iff_ne.2 ha
        have HE : Hid (R = c) := by unfold Hid; rw [← HR.out, if_neg (by simp [hx.out.1]), if_neg (by simp [hx.out.2])]
        clear ha
        go_wp2
        go_ret
        exact ⟨ret_int HE.out.symm, rfl⟩
    · have HE : Hid (R = 0) := by unfold Hid; rw [← HR.out, if_neg (by simp [hx.out.1]), if_neg (by simp [hx.out.2.1]), hx.out.2.2]
      go_wp2
      go_ret
      exact ⟨ret_int HE.out.symm, rfl⟩
theorem cmpP_eq (p q : Prc) : (if cmpS p.ap q.ap ≠ 0 then cmpS p.ap q.ap else if cmpN p.kd q.kd ≠ 0 then cmpN p.kd q.kd else cmpS p.nm q.nm) = cmpP p q := by
  unfold cmpP cmpN
  by_cases h1 : cmpS p.ap q.ap ≠ 0
  · rw [if_pos h1, if_pos h1]
  · rw [if_neg h1, if_neg h1]
    rcases Nat.lt_trichotomy p.kd q.kd with h | h | h
    · simp [h]
    · simp [h]
    · simp [h, show ¬ p.kd < q.kd by omega]
set_option maxRecDepth 100000 in
set_option maxHeartbeats 8000000 in
theorem pcompare_any (pv qv : Value) (p q : Prc) (w : World) (hp : pv.oneCell' = true) (hq : qv.oneCell' = true) :
    Calls Tryz.prog 29 #[.agg (prc (pv, p)).toArray, .agg (prc (qv, q)).toArray] w fun e w' => e = .returned (.int .i64 (cmpP p q)) ∧ Below w.heap.size w w' := by
  have HV := Lib.hid (cmpP_eq p q)
  obtain ⟨ap, nm, kd, pa⟩ := p
  obtain ⟨bp, bm, ld, pb⟩ := q
  simp only at HV
  unfold prc
  simp only
  have c1 := fun w => cmpStrings_any ap bp w
  have c2 := fun w => cmpKind_any kd ld w
  have c3 := fun w => cmpStrings_any nm bm w
  obtain ⟨x, hx⟩ : ∃ x, cmpS ap bp = x := ⟨_, rfl⟩
  obtain ⟨y, hy⟩ : ∃ x, cmpN kd ld = x := ⟨_, rfl⟩
  obtain ⟨z, hz⟩ : ∃ x, cmpS nm bm = x := ⟨_, rfl⟩
  rw [hx] at c1 HV
  rw [hy] at c2 HV
  rw [hz] at c3 HV
  rw [← HV.out]
  clear hx hy hz HV
  obtain ⟨R, hR⟩ : ∃ R, (if x ≠ 0 then x else if y ≠ 0 then y else z) = R := ⟨_, rfl⟩
  rw [hR]
  have HR := Lib.hid hR
  clear hR
  obtain ⟨w0, hw0⟩ : ∃ W, (w.alloc (.cells #[.string (sb ap), .string (sb nm), .int .u8 (kd : Int), pv] 46)).alloc (.cells #[.string (sb bp), .string (sb bm), .int .u8 (ld : Int), qv] 46) = W := ⟨_, rfl⟩
  have B0 : Hid (Below w.heap.size w w0) := by rw [← hw0]; exact ((Below.refl _ _).alloc (Nat.le_refl _) _).alloc (by simp) _
  have X0 : Hid (Bx w.heap.size #[.string (sb ap), .string (sb nm), .int .u8 (kd : Int), pv] 46 w0) := by rw [← hw0]; exact (Bx.last w _ _).grow _
  have Y0 : Hid (Bx (w.heap.size + 1) #[.string (sb bp), .string (sb bm), .int .u8 (ld : Int), qv] 46 w0) := by rw [← hw0]; exact Bx.last2 w _ _ _
  have u0 := fun pb : BelBy w0 => (X0.out.via pb.h).cell 0 (u := .string (sb ap)) rfl
  have u1 := fun pb : BelBy w0 => (X0.out.via pb.h).cell 1 (u := .string (sb nm)) rfl
  have u2 := fun pb : BelBy w0 => (X0.out.via pb.h).cell 2 (u := .int .u8 (kd : Int)) rfl
  have v0 := fun pb : BelBy w0 => (Y0.out.via pb.h).cell 0 (u := .string (sb bp)) rfl
  have v1 := fun pb : BelBy w0 => (Y0.out.via pb.h).cell 1 (u := .string (sb bm)) rfl
  have v2 := fun pb : BelBy w0 => (Y0.out.via pb.h).cell 2 (u := .int .u8 (ld : Int)) rfl
  have HW0 := Lib.hid hw0
  clear hw0
  go_enter Tryz.func29, Tryz.ntmps29
  go_upto_region 1 with fail
  rw [HW0.out]
  clear HW0
  refine wp_region_bel_tail 15 (by kernel_rfl) (by kernel_rfl) ?_
  simp only [List.take_succ_cons, List.take_zero, List.drop_succ_cons, List.drop_zero]
  repeat (quiet_step (first | (go_at_call 78; first | with_reducible exact Calls.bel_of (c1 _) | with_reducible exact Calls.bel_of (c3 _)) | (go_at_call 79; with_reducible exact Calls.bel_of (c2 _))))
  try refine wpQuiet_nil ?_
  rintro wz ⟨pb2, rfl⟩
  obtain ⟨wa, hba⟩ := pb2
  show wpList _ _ _ _ _ wa
  have BA := Lib.hid (Below.then_ B0.out hba)
  clear u0 u1 u2 v0 v1 v2 hba c1 c2 c3
  obtain ⟨g, hg⟩ : ∃ g, wa.heap.size = g := ⟨_, rfl⟩
  obtain ⟨wb, hwb⟩ : ∃ W, wa.alloc (.cells #[.int .i64 x, .int .i64 y, .int .i64 z] 3) = W := ⟨_, rfl⟩
  have BB : Hid (Below w.heap.size w wb) := by rw [← hwb]; exact BA.out.alloc BA.out.size _
  have XB : Hid (Bx g #[.int .i64 x, .int .i64 y, .int .i64 z] 3 wb) := by rw [← hwb, ← hg]; exact Bx.last wa _ _
  have hor := cmpOr_any g x y z wb (XB.out.cell 0 rfl) (XB.out.cell 1 rfl) (XB.out.cell 2 rfl) XB.out.lt
  rw [HR.out] at hor
  have HOR := Lib.hid hor
  have HWB := Lib.hid hwb
  have HG := Lib.hid hg
  clear hwb hg hor
  go_wp2_with fail
  rw [HWB.out, HG.out]
  refine HOR.out.mono ?_
  rintro e w2 ⟨rfl, rfl⟩
  go_wp2
  go_ret
  exact ⟨rfl, BB.out⟩
end Go.Proofs.YtfdhinbojbohcaaGreatDoor
