/-
  A source of up to 400 fixes compiles, and each fix beyond has its diagnostic: the law NavdbLimits returns true at every number.
  Conditions: the library's and the program's tables and errors stand as their initialisers lay them (the row's list, which the card ties to the program's text).
-/
import Derived.Test.YtakgcdefbbgdaaaGreatDoorMRow
import Derived.Test.YtakgcdefbbgdaaaGreatDoorLawLim
namespace Go.Proofs.YtakgcdefbbgdaaaGreatDoor.navdbLimits
open Go.ChangeShapes Go.WideShapes Go.ChangeAt Go.RowKit 
open Go.ChangeMaps (open_string shut_string)
set_option linter.unusedVariables false
set_option linter.unusedSimpArgs false

theorem walkI (x : Int) (h0 : 0 ≤ x) (h1 : x < 256) (w : World) (E : Env w) :
    Calls Tryz.prog 4 #[.int .u8 x] w fun e w' => e = .returned (.bool true) ∧ Below w.heap.size w w' := by
  obtain ⟨X, rfl⟩ : ∃ X : Nat, x = (X : Int) := ⟨x.toNat, by omega⟩
  exact navdbLimits_walk X (by omega) w E

theorem u8_wf {x : Int} (h : (Lit.int .u8 x).wf = true) : 0 ≤ x ∧ x < 256 := by
  unfold Lit.wf at h
  rw [Bool.and_eq_true, decide_eq_true_iff, decide_eq_true_iff] at h
  exact ⟨h.1, by have := h.2; simp [IntKind.max, IntKind.signed, IntKind.bits] at this; omega⟩
set_option maxRecDepth 100000 in
theorem contract (H : Type) (enc : TypeId × Value → H) (W : World) (base : Nat) (args : Array Value) (ds gs : List (DataW H)) (before : List MemPlace)
    (hval : ∀ (j : Nat) t v, Tryz.f4.params[j]? = some t → args[j]? = some v → Value.okWide Tryz.prog W .any base t v)
    (hW : DataW.Whole enc Tryz.prog Tryz.f4.params.toList Rows.navdbLimitsSpec.vars false W args.toList ds gs before) (E : Env W) :
    Calls Tryz.prog 4 args W fun e W' => ∃ v, e = .returned v ∧ Rows.navdbLimitsSpec.post enc Tryz.prog Tryz.f4 false true false false W args v W' := by
  have hW' := hW
  obtain ⟨p, q, hA0, hV, rfl, hfz, hnd⟩ := hW
  have hA : DataW.TrodAll enc Tryz.prog W 0 (fun _ => true) true Tryz.f4.params.toList args.toList ds p := hA0
  rw [Tryz.params4] at hA hval
  obtain ⟨v0, vs0, d0, ds0, p0, q0, hargs, rfl, rfl, h0, r0⟩ := trodAll_cons hA
  obtain ⟨rfl, rfl, rfl⟩ := trodAll_nil r0
  obtain rfl : args = #[v0] := by cases args; simp_all
  obtain ⟨rfl, rfl⟩ := trodVars_none hV
  obtain ⟨x, rfl, rfl, rfl, h_x⟩ := open_int Tryz.underlying5 (hval 0 5 v0 rfl rfl) h0
  clear hA0
  refine (walkI x (u8_wf h_x).1 (u8_wf h_x).2 W E).mono fun e W' ⟨he, bel⟩ => ?_
  subst he
  exact ⟨_, rfl, _, _, _, [], _, [], hW', trodAll_mk1 (shut_bool Tryz.underlying4 _), (trodAll_cons_mk (shut_int Tryz.underlying5 h_x) trodAll_mk0), rfl, bel.frame _, fun h => by cases h⟩
set_option maxRecDepth 100000 in
/-- THE CARD -/
theorem card : Rows.NavdbLimitsCardSaid :=
  cardOf contract
end Go.Proofs.YtakgcdefbbgdaaaGreatDoor.navdbLimits
