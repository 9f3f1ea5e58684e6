/-
  An image with a burst of damage is refused: the law ImageDamage returns true at any database, bit and pattern.
  Conditions: the library's and the program's tables and errors stand as their initialisers lay them (the row's list, which the card ties to the program's text).
-/
import Derived.Test.YtecklnobgfahfaaGreatDoorCardDmgF
import Derived.Test.YtecklnobgfahfaaGreatDoorLawDmg
import Derived.Test.YtecklnobgfahfaaGreatDoorDbZ
namespace Go.Proofs.YtecklnobgfahfaaGreatDoor.imageDamage
open Go.ChangeShapes Go.WideShapes Go.ChangeAt Go.RowKit 
open Go.ChangeMaps (open_string shut_string)
set_option linter.unusedVariables false
set_option linter.unusedSimpArgs false

set_option maxRecDepth 100000 in
theorem contract (H : Type) (enc : TypeId × Value → H) (W : World) (base : Nat) (args : Array Value) (ds gs : List (DataW H)) (before : List MemPlace)
    (hval : ∀ (j : Nat) t v, Tryz.f5.params[j]? = some t → args[j]? = some v → Value.okWide Tryz.prog W .any base t v)
    (hW : DataW.Whole enc Tryz.prog Tryz.f5.params.toList Rows.imageDamageSpec.vars false W args.toList ds gs before) (E : Env W) (hT : LegT W) (hZ : (DataW.weightsEach Tryz.prog (Tryz.f5.params.toList ++ (OpenSpec.ofChange Rows.imageDamageSpec).bare.plain.varTypes Tryz.prog) (ds ++ gs)).all (· ≤ reachBytes) = true) :
    Calls Tryz.prog 5 args W fun e W' => ∃ v, e = .returned v ∧ Rows.imageDamageSpec.post enc Tryz.prog Tryz.f5 false true false false W args v W' := by
  have hW' := hW
  obtain ⟨p, q, hA0, hV, rfl, hfz, hnd⟩ := hW
  have hA : DataW.TrodAll enc Tryz.prog W 0 (fun _ => true) true Tryz.f5.params.toList args.toList ds p := hA0
  rw [Tryz.params5] at hA hval hZ
  obtain ⟨v0, vs0, d0, ds0, p0, q0, hargs, rfl, rfl, h0, r0⟩ := trodAll_cons hA
  obtain ⟨v1, vs1, d1, ds1, p1, q1, rfl, rfl, rfl, h1, r1⟩ := trodAll_cons r0
  obtain ⟨v2, vs2, d2, ds2, p2, q2, rfl, rfl, rfl, h2, r2⟩ := trodAll_cons r1
  obtain ⟨rfl, rfl, rfl⟩ := trodAll_nil r2
  obtain rfl : args = #[v0, v1, v2] := by cases args; simp_all
  obtain ⟨rfl, rfl⟩ := trodVars_none hV
  have h0k := h0
  have hlt0 : ∀ x ∈ p0, x.block < W.heap.size := fun x hx => hW'.lt x (by simp [hx])
  obtain ⟨cs0, rfl, hcs0⟩ := okWide_struct Tryz.underlying30 (hval 0 30 v0 rfl rfl)
  obtain ⟨fuel0, hf0⟩ := h0
  obtain ⟨D, fv, av, pv, e0, e1, e2, e3, hcc, h_D, hdd, hfd⟩ := open_dbS hf0
  simp only at hdd
  obtain rfl : d0 = .agg [e0, e1, e2, e3] := hdd
  have hzf := sized_db hZ (j := 0) rfl rfl hfd
  obtain rfl : cs0 = (dbC D.hd fv av pv).toArray := by rw [← hcc]; show cs0 = cs0.toList.toArray; simp
  obtain ⟨bit, rfl, rfl, rfl, h_bit⟩ := open_int Tryz.underlying3 (hval 1 3 v1 rfl rfl) h1
  obtain ⟨pat, rfl, rfl, rfl, h_pat⟩ := open_int Tryz.underlying51 (hval 2 51 v2 rfl rfl) h2
  clear hA0
  refine (imageDamage_walk D fv av pv bit pat W E hT h_D hzf h_bit h_pat).mono fun e W' ⟨he, bel⟩ => ?_
  subst he
  exact ⟨_, rfl, _, _, _, [], _, [], hW', trodAll_mk1 (shut_bool Tryz.underlying4 _), (trodAll_cons_mk (Below.trod laidOut (by kernel_rfl) (of_decide_eq_true (by kernel_rfl)) h0k bel hlt0) (trodAll_cons_mk (shut_int Tryz.underlying3 h_bit) (trodAll_cons_mk (shut_int Tryz.underlying51 h_pat) trodAll_mk0))), rfl, bel.frame _, fun h => by cases h⟩
set_option maxRecDepth 100000 in
/-- THE CARD -/
theorem card : Rows.ImageDamageCardSaid :=
  cardOf contract
end Go.Proofs.YtecklnobgfahfaaGreatDoor.imageDamage
