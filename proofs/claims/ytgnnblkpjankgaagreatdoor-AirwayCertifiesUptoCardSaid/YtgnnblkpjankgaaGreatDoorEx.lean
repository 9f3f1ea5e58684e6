/-
  Contracts and values: the airway of the chapter's examples, and that the law's awake answers true.
-/
import Derived.Test.YtgnnblkpjankgaaGreatDoorAwText
import Derived.Test.YtgnnblkpjankgaaGreatDoorReachT
namespace Go.Proofs.YtgnnblkpjankgaaGreatDoor
open Go.RowKit
set_option linter.unusedVariables false
set_option linter.unusedSimpArgs false

theorem alt_500000 : altOut 500000 = [53, 48, 48, 48] := by
  show altOut ((500000 : Nat) : Int) = _
  rw [altOut_pos (by decide), altAbs_whole (by decide), decDigits_digs 9 (500000 / 100) (by decide) (by decide)]
  decide
def rA : List UInt8 := [65, 47, 75, 49]
def rB : List UInt8 := [66, 47, 75, 49]
def rC : List UInt8 := [67, 47, 75, 49]
def exNm : List UInt8 := [86, 49]
def exPts : List Pt := [⟨rA, 500000, 6000000, 0⟩, ⟨rB, -200000, 6000000, 1⟩, ⟨rC, -200000, 6000000, 0⟩]
theorem ex_chk : chkA exNm exPts = 0 := by decide
theorem ex_1 : expOut exNm exPts rA rC = ([⟨rB, 500000, 6000000, 0⟩, ⟨rC, -200000, 6000000, 0⟩], 0) := by kernel_rfl
theorem ex_2 : expOut exNm exPts rB rA = ([⟨rA, 500000, 6000000, 0⟩], 0) := by kernel_rfl
theorem ex_3 : (expOut exNm exPts rC rA).2 = 9 := by kernel_rfl
theorem ex_win : winOut 500000 6000000 = [53, 48, 48, 48, 43] := by
  unfold winOut winText
  rw [if_neg (by decide), if_neg (by decide), if_neg (by decide), if_pos (by decide), alt_500000]
  rfl
theorem ex_free : winOut (-200000) 6000000 = [45] := by
  unfold winOut winText
  rw [if_neg (by decide), if_pos (by decide)]
def exText : List UInt8 := [65, 73, 82, 87, 65, 89, 32, 86, 49, 10, 86, 73, 65, 32, 65, 47, 75, 49, 32, 53, 48, 48, 48, 43, 32, 66, 79, 84, 72, 10, 86, 73, 65, 32, 66, 47, 75, 49, 32, 45, 32, 70, 79, 82, 87, 65, 82, 68, 10, 86, 73, 65, 32, 67, 47, 75, 49, 10]
theorem ex_text : txOut exNm exPts = exText := by
  unfold txOut awText
  rw [if_pos ex_chk]
  show _ ++ (ptLine ⟨rA, 500000, 6000000, 0⟩ false ++ (ptLine ⟨rB, -200000, 6000000, 1⟩ false ++ (ptLine ⟨rC, -200000, 6000000, 0⟩ true ++ []))) = _
  unfold ptLine ptTail
  rw [if_neg (by decide), if_neg (by decide), if_pos rfl]
  simp only []
  rw [ex_win, ex_free]
  decide
theorem ex_next : nextL [⟨exNm, exPts⟩] rB = [⟨exNm, rC, -200000, 6000000⟩, ⟨exNm, rA, 500000, 6000000⟩] := by kernel_rfl
theorem ex_chkL : chkL [⟨exNm, exPts⟩] = 0 := by kernel_rfl
theorem ex_found : found [⟨exNm, exPts⟩] rC = [rC] := by kernel_rfl
theorem ex_reach : rcL [⟨exNm, exPts⟩] rC = [rC] := by
  unfold rcL reachL srt
  rw [if_pos ex_chkL, ex_found]
  exact List.mergeSort_singleton _
def ExPost (w : World) (e : Ending) (w' : World) : Prop := ∃ g, e = .returned (.agg #[.string (sb exNm), .slice (some ⟨g, 0, none⟩) 3 3]) ∧ PtsR w' (.slice (some ⟨g, 0, none⟩) 3 3) exPts ∧ Below w.heap.size w w'
set_option maxHeartbeats 1000000 in
theorem lfree_any (w : World) : Calls Tryz.prog 47 #[] w fun e w' => e = .returned (.agg #[.int .i64 (-200000), .int .i64 6000000]) ∧ w' = w.alloc (.cells #[.int .i64 (-200000), .int .i64 6000000] 46) := by
  go_enter Tryz.func47, Tryz.ntmps47
  go_wp2
  exact bodyPost_ret (v := .agg #[.int .i64 (-200000), .int .i64 6000000]) (by simp [results, Tryz.results47, go_sem]) rfl ⟨rfl, rfl⟩
set_option maxHeartbeats 1000000 in
theorem example_any (w : World) : Calls Tryz.prog 16 #[] w (ExPost w) := by
  go_enter Tryz.func16, Tryz.ntmps16
  go_wp2_with (go_at_call 47; refine (lfree_any _).mono ?_; rintro e w' ⟨rfl, rfl⟩)
  refine bodyPost_ret (v := .agg #[.string (sb exNm), .slice (some ⟨w.heap.size + 1 + 1 + 1, 0, none⟩) 3 3]) (by simp [results, Tryz.results16, go_sem]; rfl) rfl ⟨_, rfl, ⟨?_, ?_⟩, ?_⟩
  · have h := Rd.of_own (World.ownsRow_lit (base := 0) (e := 68) (size := 4) (((w.alloc (.cells #[.string (sb exNm), .slice (some ⟨w.heap.size + 1 + 1 + 1, 0, none⟩) 3 3] 63)).alloc (.cells #[.int .i64 (-200000), .int .i64 6000000] 46)).alloc (.cells #[.int .i64 (-200000), .int .i64 6000000] 46)) (ptcells exPts).toArray 3 (Nat.zero_le _) (by unfold maxLen; omega) rfl)
    simp only [World.size_alloc] at h
    exact h
  · intro p hp
    unfold maxLen
    simp only [exPts, List.mem_cons, List.not_mem_nil, or_false] at hp
    rcases hp with rfl | rfl | rfl <;> exact ⟨by decide, by decide⟩
  · exact ((((Below.refl _ _).alloc (Nat.le_refl _) _).alloc (by simp) _).alloc (by simp; omega) _).alloc (by simp; omega) _
end Go.Proofs.YtgnnblkpjankgaaGreatDoor
