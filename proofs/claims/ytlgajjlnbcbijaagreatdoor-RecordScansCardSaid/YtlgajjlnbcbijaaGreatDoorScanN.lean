/-
  Contracts: the methods of a scanner that is nil (the program).
-/
import Derived.Test.YtlgajjlnbcbijaaGreatDoorScanS
namespace Go.Proofs.YtlgajjlnbcbijaaGreatDoor
open Go.RowKit
set_option linter.unusedVariables false
set_option linter.unusedSimpArgs false

theorem nfailed_any (w : World) :
    Calls Tryz.prog 102 #[.pointer none] w fun e w' => e = .returned (.bool true) ∧ w = w' := by
  go_enter Tryz.func102, Tryz.ntmps102
  go_wp2
  go_ret
  exact ⟨rfl, rfl⟩
theorem ntake_any (w : World) :
    Calls Tryz.prog 104 #[.pointer none] w fun e w' => e = .returned (.tuple #[.string ⟨#[]⟩, .bool false]) ∧ w = w' := by
  go_enter Tryz.func104, Tryz.ntmps104
  go_wp2_with fail
  refine (nfailed_any _).mono ?_
  rintro e w1 ⟨rfl, rfl⟩
  go_wp2
  go_ret2
  exact ⟨rfl, rfl⟩
theorem nleft_any (w : World) :
    Calls Tryz.prog 29 #[.pointer none] w fun e w' => e = .returned (.int .i64 0) ∧ w = w' := by
  go_enter Tryz.func29, Tryz.ntmps29
  go_wp2_with fail
  refine (nfailed_any _).mono ?_
  rintro e w1 ⟨rfl, rfl⟩
  go_wp2
  go_ret
  exact ⟨rfl, rfl⟩
theorem nfield_any (w : World) :
    Calls Tryz.prog 34 #[.pointer none] w fun e w' => e = .returned (.string ⟨#[]⟩) ∧ w = w' := by
  go_enter Tryz.func34, Tryz.ntmps34
  go_wp2_with fail
  refine (ntake_any _).mono ?_
  rintro e w1 ⟨rfl, rfl⟩
  go_wp2
  go_ret
  exact ⟨rfl, rfl⟩
theorem nword_any (v : Value) (w : World) :
    Calls Tryz.prog 35 #[.pointer none, v] w fun e w' => e = .returned (.int .i64 (-1)) ∧ w = w' := by
  go_enter Tryz.func35, Tryz.ntmps35
  go_wp2_with fail
  refine (ntake_any _).mono ?_
  rintro e w1 ⟨rfl, rfl⟩
  go_wp2
  go_ret
  exact ⟨rfl, rfl⟩
theorem ntakenS_any (fv : Value) (w : World) :
    Calls Tryz.prog 105 #[.pointer none, fv] w fun e w' => e = .returned (.string ⟨#[]⟩) ∧ w = w' := by
  go_enter Tryz.func105, Tryz.ntmps105
  go_wp2_with fail
  refine (ntake_any _).mono ?_
  rintro e w1 ⟨rfl, rfl⟩
  go_wp2
  go_ret
  exact ⟨rfl, rfl⟩
theorem ntakenI_any (fv : Value) (w : World) :
    Calls Tryz.prog 108 #[.pointer none, fv] w fun e w' => e = .returned (.int .i64 0) ∧ w = w' := by
  go_enter Tryz.func108, Tryz.ntmps108
  go_wp2_with fail
  refine (ntake_any _).mono ?_
  rintro e w1 ⟨rfl, rfl⟩
  go_wp2
  go_ret
  exact ⟨rfl, rfl⟩
set_option maxHeartbeats 1000000 in
theorem ntakenP_any (fv : Value) (w : World) :
    Calls Tryz.prog 111 #[.pointer none, fv] w fun e w' => e = .returned (.agg #[.int .i64 0, .int .i64 0]) ∧ Below w.heap.size w w' := by
  go_enter Tryz.func111, Tryz.ntmps111
  go_wp2_with fail
  refine (ntake_any _).mono ?_
  rintro e w1 ⟨rfl, rfl⟩
  go_wp2
  exact bodyPost_ret (v := .agg #[.int .i64 0, .int .i64 0]) (by simp [results, Tryz.results111, go_sem]) rfl ⟨rfl, by repeat (first | exact Below.refl _ _ | refine Below.setCell ?_ (by simp) _ | refine Below.alloc ?_ (by simp) _)⟩
set_option maxHeartbeats 1000000 in
theorem ntakenW_any (fv : Value) (w : World) :
    Calls Tryz.prog 114 #[.pointer none, fv] w fun e w' => e = .returned (.agg #[.int .i64 0, .int .i64 0]) ∧ Below w.heap.size w w' := by
  go_enter Tryz.func114, Tryz.ntmps114
  go_wp2_with fail
  refine (ntake_any _).mono ?_
  rintro e w1 ⟨rfl, rfl⟩
  go_wp2
  exact bodyPost_ret (v := .agg #[.int .i64 0, .int .i64 0]) (by simp [results, Tryz.results114, go_sem]) rfl ⟨rfl, by repeat (first | exact Below.refl _ _ | refine Below.setCell ?_ (by simp) _ | refine Below.alloc ?_ (by simp) _)⟩
theorem nname_any (m : Int) (w : World) :
    Calls Tryz.prog 36 #[.pointer none, .int .i64 m] w fun e w' => e = .returned (.string ⟨#[]⟩) ∧ Below w.heap.size w w' := by
  go_enter Tryz.func36, Tryz.ntmps36
  go_wp2_with fail
  refine (ntakenS_any _ _).mono ?_
  rintro e w1 ⟨rfl, rfl⟩
  go_wp2
  go_ret
  exact ⟨rfl, (Below.refl _ _).alloc (Nat.le_refl _) _⟩
theorem nnumber_any (m k : Int) (w : World) :
    Calls Tryz.prog 37 #[.pointer none, .int .i64 m, .int .i64 k] w fun e w' => e = .returned (.int .i64 0) ∧ Below w.heap.size w w' := by
  go_enter Tryz.func37, Tryz.ntmps37
  go_wp2_with fail
  refine (ntakenI_any _ _).mono ?_
  rintro e w1 ⟨rfl, rfl⟩
  go_wp2
  go_ret
  exact ⟨rfl, ((Below.refl _ _).alloc (Nat.le_refl _) _).alloc (by simp) _⟩
theorem naltS_any (w : World) :
    Calls Tryz.prog 39 #[.pointer none] w fun e w' => e = .returned (.int .i64 0) ∧ w = w' := by
  go_enter Tryz.func39, Tryz.ntmps39
  go_wp2_with fail
  refine (ntakenI_any _ _).mono ?_
  rintro e w1 ⟨rfl, rfl⟩
  go_wp2
  go_ret
  exact ⟨rfl, rfl⟩
theorem ndistS_any (w : World) :
    Calls Tryz.prog 41 #[.pointer none] w fun e w' => e = .returned (.int .i64 0) ∧ w = w' := by
  go_enter Tryz.func41, Tryz.ntmps41
  go_wp2_with fail
  refine (ntakenI_any _ _).mono ?_
  rintro e w1 ⟨rfl, rfl⟩
  go_wp2
  go_ret
  exact ⟨rfl, rfl⟩
set_option maxHeartbeats 1000000 in
theorem nposS_any (w : World) :
    Calls Tryz.prog 38 #[.pointer none] w fun e w' => e = .returned (.agg #[.int .i64 0, .int .i64 0]) ∧ Below w.heap.size w w' := by
  go_enter Tryz.func38, Tryz.ntmps38
  go_wp2_with fail
  refine (ntakenP_any _ _).mono ?_
  rintro e w1 ⟨rfl, hb⟩
  have HB := Lib.hid (((Below.refl w.heap.size w).alloc (Nat.le_refl _) _).trans (hb.mono (by simp)))
  have hs := hb.size
  rw [World.size_alloc] at hs
  have hlt : w.heap.size < w1.heap.size := by omega
  obtain ⟨hc, hf⟩ := bcell hb
  clear hb
  go_wp2
  exact bodyPost_ret (v := .agg #[.int .i64 0, .int .i64 0]) (by simp [results, Tryz.results38, go_sem, hc, hlt]) rfl ⟨rfl, by repeat (first | exact HB.out | refine Below.setCell ?_ (by simp) _)⟩
set_option maxHeartbeats 1000000 in
theorem nwinS_any (w : World) :
    Calls Tryz.prog 40 #[.pointer none] w fun e w' => e = .returned (.agg #[.int .i64 0, .int .i64 0]) ∧ Below w.heap.size w w' := by
  go_enter Tryz.func40, Tryz.ntmps40
  go_wp2_with fail
  refine (ntakenW_any _ _).mono ?_
  rintro e w1 ⟨rfl, hb⟩
  have HB := Lib.hid (((Below.refl w.heap.size w).alloc (Nat.le_refl _) _).trans (hb.mono (by simp)))
  have hs := hb.size
  rw [World.size_alloc] at hs
  have hlt : w.heap.size < w1.heap.size := by omega
  obtain ⟨hc, hf⟩ := bcell hb
  clear hb
  go_wp2
  exact bodyPost_ret (v := .agg #[.int .i64 0, .int .i64 0]) (by simp [results, Tryz.results40, go_sem, hc, hlt]) rfl ⟨rfl, by repeat (first | exact HB.out | refine Below.setCell ?_ (by simp) _)⟩
theorem nrest_any (w : World) :
    Calls Tryz.prog 42 #[.pointer none] w fun e w' => e = .returned (.string ⟨#[]⟩) ∧ w = w' := by
  go_enter Tryz.func42, Tryz.ntmps42
  go_wp2_with fail
  refine (nleft_any _).mono ?_
  rintro e w1 ⟨rfl, rfl⟩
  go_wp2
  go_ret
  exact ⟨rfl, rfl⟩
theorem nfail_any (er : Int) (w : World) :
    Calls Tryz.prog 33 #[.pointer none, .int .i64 er] w fun e w' => e = .returned (.tuple #[]) ∧ w = w' := by
  go_enter Tryz.func33, Tryz.ntmps33
  go_wp2
  go_end0
  exact ⟨rfl, rfl⟩
set_option maxHeartbeats 1000000 in
theorem nend_any (w : World) :
    Calls Tryz.prog 31 #[.pointer none] w fun e w' => e = .returned (.tuple #[.agg #[.int .i64 0, .int .i64 0, .int .i64 0], .bool false]) ∧ Below w.heap.size w w' := by
  go_enter Tryz.func31, Tryz.ntmps31
  go_wp2
  exact bodyPost_ret (v := .tuple #[.agg #[.int .i64 0, .int .i64 0, .int .i64 0], .bool false]) (by simp [results, Tryz.results31, go_sem]) rfl ⟨rfl, by repeat (first | exact Below.refl _ _ | refine Below.setCell ?_ (by simp) _ | refine Below.alloc ?_ (by simp) _)⟩
end Go.Proofs.YtlgajjlnbcbijaaGreatDoor
