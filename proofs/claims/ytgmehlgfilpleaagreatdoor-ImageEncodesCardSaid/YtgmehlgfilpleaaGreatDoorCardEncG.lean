/-
  Closed facts of the card, second part.
-/
import Derived.Test.YtgmehlgfilpleaaGreatDoorCardEncF
namespace Go.Proofs.YtgmehlgfilpleaaGreatDoor.imageEncodes
open Go.ChangeShapes Go.WideShapes Go.ChangeAt Go.RowKit 
open Go.ChangeMaps (open_string shut_string)
set_option linter.unusedVariables false
set_option linter.unusedSimpArgs false
theorem plain (f : FuncId) (fn : Func) (hf : Tryz.pinned.checked.prog.funcNamed "flightdeck/flightdecklaw19.ImageEncodes" = some f) (hfn : Tryz.pinned.checked.prog.funcs[f]? = some fn) :
    true = Tryz.pinned.checked.prog.looks [] ∧ ∀ (j : Nat) t, fn.params[j]? = some t → Tryz.pinned.checked.prog.wantsStandIn t = false := by
  obtain rfl : f = 5 := Option.some.inj ((show Tryz.prog.funcNamed "flightdeck/flightdecklaw19.ImageEncodes" = some 5 by kernel_rfl).symm.trans hf) |>.symm
  obtain rfl : fn = Tryz.f5 := (Option.some.inj (Tryz.func5.symm.trans hfn)).symm
  refine ⟨by kernel_rfl, fun j t ht => ?_⟩
  rw [Tryz.params5] at ht
  obtain rfl : t = 30 := by simpa using Array.mem_of_getElem? ht
  · exact (show Tryz.prog.wantsStandIn 30 = false by kernel_rfl)
theorem anyGoes : (Tryz.prog.funcs.toList.any Func.goes) = false := by kernel_rfl
theorem noGoes {P : Program} (h : (P.funcs.toList.any Func.goes) = false) (f : FuncId) : P.goes f = false := by
  have h0 : P.funcs.any Func.goes = false := by rw [← Array.any_toList]; exact h
  have h1 : ∀ g : FuncId, ((P.funcs[g]?).any Func.goes) = false := fun g => by
    cases hg : P.funcs[g]? with
    | none => rfl
    | some x =>
      have hm : x ∈ P.funcs.toList := by simpa using Array.mem_of_getElem? hg
      simpa using (List.any_eq_false.mp h x hm)
  unfold Program.goes
  rw [h0, Bool.and_false, Bool.or_false]
  exact List.any_eq_false.mpr fun g _ => by rw [h1 g]; simp
theorem noGoesBy {P : Program} (h : (P.funcs.toList.any Func.goes) = false) (c : OpenClaim) : false = c.goesBy P := by
  unfold OpenClaim.goesBy Program.goesAt Program.goesFrom
  have h2 : (P.funcNamed c.func).any P.goes = false := by
    cases P.funcNamed c.func with
    | none => rfl
    | some x => exact noGoes h x
  rw [h2, Bool.false_or]
  cases c.start <;> first | rfl | exact (List.any_eq_false.mpr fun g _ => by rw [noGoes h g]; simp).symm
set_option maxHeartbeats 100000000 in
theorem cardOf (contract : Contract) : Rows.ImageEncodesCardSaid :=
  Claim7.holds_tied_plain_at .later [] _ _ _ _ (saidOf contract) (fun _ h => by cases h) (by as_aux_lemma => kernel_rfl) (fun _ h => by cases h) imageEncodes_row_tie rfl ⟨rfl, rfl⟩ (by as_aux_lemma => kernel_rfl) rfl plain (noGoesBy anyGoes _)
end Go.Proofs.YtgmehlgfilpleaaGreatDoor.imageEncodes
