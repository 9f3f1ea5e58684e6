/-
  The image of any database, or its error: the law ImageEncodes returns true at any database.
  Conditions: the library's and the program's tables and errors stand as their initialisers lay them (the row's list, which the card ties to the program's text).
-/
import Derived.Test.YtgmehlgfilpleaaGreatDoorCardEncG
import Derived.Test.YtgmehlgfilpleaaGreatDoorLawEnc
import Derived.Test.YtgmehlgfilpleaaGreatDoorMG07
namespace Go.Proofs.YtgmehlgfilpleaaGreatDoor.imageEncodes
open Go.ChangeShapes Go.WideShapes Go.ChangeAt Go.RowKit 
open Go.ChangeMaps (open_string shut_string)
set_option linter.unusedVariables false
set_option linter.unusedSimpArgs false

set_option maxRecDepth 100000 in
theorem contract (H : Type) (enc : TypeId × Value → H) (W : World) (base : Nat) (args : Array Value) (ds gs : List (DataW H)) (before : List MemPlace)
    (hval : ∀ (j : Nat) t v, Tryz.f5.params[j]? = some t → args[j]? = some v → Value.okWide Tryz.prog W .any base t v)
    (hW : DataW.Whole enc Tryz.prog Tryz.f5.params.toList Rows.imageEncodesSpec.vars false W args.toList ds gs before) (E : Env W) (hT : LegT W) (hZ : (DataW.weightsEach Tryz.prog (Tryz.f5.params.toList ++ (OpenSpec.ofChange Rows.imageEncodesSpec).bare.plain.varTypes Tryz.prog) (ds ++ gs)).all (· ≤ reachBytes) = true) :
    Calls Tryz.prog 5 args W fun e W' => ∃ v, e = .returned v ∧ Rows.imageEncodesSpec.post enc Tryz.prog Tryz.f5 false true false false W args v W' := by
  have hW' := hW
  obtain ⟨p, q, hA0, hV, rfl, hfz, hnd⟩ := hW
  have hA : DataW.TrodAll enc Tryz.prog W 0 (fun _ => true) true Tryz.f5.params.toList args.toList ds p := hA0
  rw [Tryz.params5] at hA hval hZ
  obtain ⟨v0, vs0, d0, ds0, p0, q0, hargs, rfl, rfl, h0, r0⟩ := trodAll_cons hA
  obtain ⟨rfl, rfl, rfl⟩ := trodAll_nil r0
  obtain rfl : args = #[v0] := by cases args; simp_all
  obtain ⟨rfl, rfl⟩ := trodVars_none hV
  have h0k := h0
  have hlt0 : ∀ x ∈ p0, x.block < W.heap.size := fun x hx => hW'.lt x (by simp [hx])
  obtain ⟨cs0, rfl, hcs0⟩ := okWide_struct Tryz.underlying30 (hval 0 30 v0 rfl rfl)
  obtain ⟨fuel0, hf0⟩ := h0
  obtain ⟨D, fv, av, pv, e0, e1, e2, e3, hcc, h_D, hdd, hfd⟩ := open_dbS hf0
  simp only at hdd
  obtain rfl : d0 = .agg [e0, e1, e2, e3] := hdd
  have hzf := sized_db hZ (j := 0) rfl rfl hfd
  obtain rfl : cs0 = (dbC D.hd fv av pv).toArray := by rw [← hcc]; show cs0 = cs0.toList.toArray; simp
  clear hA0
  refine (imageEncodes_walk D fv av pv W E hT h_D hzf).mono fun e W' ⟨he, bel⟩ => ?_
  subst he
  exact ⟨_, rfl, _, _, _, [], _, [], hW', trodAll_mk1 (shut_bool Tryz.underlying4 _), (trodAll_cons_mk (Below.trod laidOut (by kernel_rfl) (of_decide_eq_true (by kernel_rfl)) h0k bel hlt0) trodAll_mk0), rfl, bel.frame _, fun h => by cases h⟩
set_option maxRecDepth 100000 in
/-- THE CARD -/
theorem card : Rows.ImageEncodesCardSaid :=
  cardOf contract
end Go.Proofs.YtgmehlgfilpleaaGreatDoor.imageEncodes
