/-
  A field that is the text of a position is taken as that position: the law RecordPositions returns true at every position.
  Conditions: the library's tables and errors stand as their initialisers lay them (the row's list, which the card ties to the program's text).
-/
import Derived.Test.YtlgajjlnbcbijaaDoorRowP
import Derived.Test.YtlgajjlnbcbijaaDoorLawPosn
import Derived.Lib.SmallJoins
namespace Go.Proofs.YtlgajjlnbcbijaaDoor.recordPositions
open Go.ChangeShapes Go.WideShapes Go.ChangeAt Go.RowKit Go.Joins Go.Deep 
open Go.ChangeMaps (open_string shut_string)
set_option linter.unusedVariables false
set_option linter.unusedSimpArgs false

set_option maxRecDepth 100000 in
theorem contract (H : Type) (enc : TypeId × Value → H) (W : World) (base : Nat) (args : Array Value) (ds gs : List (DataW H)) (before : List MemPlace)
    (hval : ∀ (j : Nat) t v, Tryd.f3.params[j]? = some t → args[j]? = some v → Value.okWide Tryd.prog W .any base t v)
    (hW : DataW.Whole enc Tryd.prog Tryd.f3.params.toList Rows.recordPositionsSpec.vars false W args.toList ds gs before) (E : Env W) :
    Calls Tryd.prog 3 args W fun e W' => ∃ v, e = .returned v ∧ Rows.recordPositionsSpec.post enc Tryd.prog Tryd.f3 false true false false W args v W' := by
  have hW' := hW
  obtain ⟨p, q, hA0, hV, rfl, hfz, hnd⟩ := hW
  have hA : DataW.TrodAll enc Tryd.prog W 0 (fun _ => true) true Tryd.f3.params.toList args.toList ds p := hA0
  rw [Tryd.params3] at hA hval
  obtain ⟨v0, vs0, d0, ds0, p0, q0, hargs, rfl, rfl, h0, r0⟩ := trodAll_cons hA
  obtain ⟨rfl, rfl, rfl⟩ := trodAll_nil r0
  obtain rfl : args = #[v0] := by cases args; simp_all
  obtain ⟨rfl, rfl⟩ := trodVars_none hV
  obtain ⟨u00, u01, y00, y01, nn0, rfl, rfl, rfl, t00, t01⟩ := open_agg2 Tryd.underlying23 (by kernel_rfl) (by kernel_rfl) (hval 0 23 v0 rfl rfl) h0
  obtain ⟨a, e00, rfl, h_a⟩ := DataW.trod_int Tryd.underlying2 t00
  obtain rfl : u00 = .int .i64 a := by simpa using e00
  obtain ⟨b, e01, rfl, h_b⟩ := DataW.trod_int Tryd.underlying2 t01
  obtain rfl : u01 = .int .i64 b := by simpa using e01
  clear hA0
  refine (recordPositions_walk a b W E).mono fun e W' ⟨he, bel⟩ => ?_
  subst he
  exact ⟨_, rfl, _, _, _, [], _, [], hW', trodAll_mk1 (shut_bool Tryd.underlying4 _), (trodAll_cons_mk (shut_agg2 Tryd.underlying23 (by kernel_rfl) (by kernel_rfl) (shut_int Tryd.underlying2 h_a) (shut_int Tryd.underlying2 h_b)) trodAll_mk0), rfl, bel.frame _, fun h => by cases h⟩

theorem reads (os : Os) {H : Type} (enc : TypeId × Value → H) : ∃ places, DataW.whole enc Tryd.prog ((laidWorld os).forCall (fun _ _ => 0) ⟨#[], #[.agg #[.int .i64 0, .int .i64 0]], []⟩).memory Tryd.f3.params.toList Rows.recordPositionsSpec.vars false #[Value.agg #[.int .i64 0, .int .i64 0]].toList 8 = some ([.agg [.lit (.int .i64 0), .lit (.int .i64 0)]], [], places) :=
  ⟨[], by kernel_rfl⟩
set_option maxRecDepth 100000 in
theorem lifted (os : Os) (started : os.Started) (H : Type) (enc : TypeId × Value → H) (F : Stop.Interp) :
    ReturnsInHanded {} Tryd.checked os 3 .any ((OpenSpec.ofChange Rows.recordPositionsSpec).preRow enc Tryd.prog Tryd.f3 Rows.recordPositionsRow.domain false Rows.recordPositionsRow.laid) (((OpenSpec.ofChange Rows.recordPositionsSpec).at F).post enc Tryd.prog Tryd.f3 false true false false) := by
  obtain ⟨places, hx⟩ := reads os enc
  refine returnsInHanded_of_row (C := Tryd.checked) (s := (OpenSpec.ofChange Rows.recordPositionsSpec)) own started (by kernel_rfl) Tryd.func3
    (witness_row_at (enc := enc) (C := Tryd.checked) false (laidWorld os) #[.agg #[.int .i64 0, .int .i64 0]] rfl (by kernel_rfl) (by kernel_rfl) (by kernel_rfl)
      (OpenSpec.preRow_of_cond 8 hx (by kernel_rfl) (fun k hk => by cases hk) (by kernel_rfl) (laid_met os _))) ?_
  intro W base args ds gs before hval hW _ _ _ hL hsh _
  exact contract H enc W base args ds gs before hval hW (env_of_laid hL hsh)
theorem and_t {a b : Bool} (h : a = true) (k : b = true) : (a && b) = true := by rw [h, k]; rfl
set_option maxHeartbeats 100000000 in
theorem facts : joinedFacts Tryd.prog 3 Tryd.f3 ((OpenSpec.ofChange Rows.recordPositionsSpec)).bare Rows.recordPositionsRow = true := by
  unfold joinedFacts
  repeat' (with_reducible apply and_t)
  all_goals as_aux_lemma => kernel_rfl
set_option maxHeartbeats 100000000 in
theorem said : Rows.RecordPositionsSaid :=
  OpenClaim.holds_of_cond 3 Tryd.f3 rfl rfl rfl rfl rfl rfl rfl ⟨rfl, rfl, rfl, rfl, rfl⟩ rfl rfl rfl rfl rfl (by as_aux_lemma => kernel_rfl) Tryd.func3 facts
    (of_decide_eq_true (by kernel_rfl)) (by unfold Func.isWrapper; first | (rw [if_pos (by decide +kernel)]; kernel_rfl) | (rw [if_neg (by decide +kernel)]; exact ⟨rfl, rfl⟩))
    (fun os started H enc _ F => by rw [OpenClaim.pre_eq_preRow]; exact lifted os started H enc F)
theorem plain (f : FuncId) (fn : Func) (hf : Tryd.pinned.checked.prog.funcNamed "flightdeck/flightdecklaw08.RecordPositions" = some f) (hfn : Tryd.pinned.checked.prog.funcs[f]? = some fn) :
    true = Tryd.pinned.checked.prog.looks [] ∧ ∀ (j : Nat) t, fn.params[j]? = some t → Tryd.pinned.checked.prog.wantsStandIn t = false := by
  obtain rfl : f = 3 := Option.some.inj ((show Tryd.prog.funcNamed "flightdeck/flightdecklaw08.RecordPositions" = some 3 by kernel_rfl).symm.trans hf) |>.symm
  obtain rfl : fn = Tryd.f3 := (Option.some.inj (Tryd.func3.symm.trans hfn)).symm
  refine ⟨by kernel_rfl, fun j t ht => ?_⟩
  rw [Tryd.params3] at ht
  obtain rfl : t = 23 := by simpa using Array.mem_of_getElem? ht
  · exact (show Tryd.prog.wantsStandIn 23 = false by kernel_rfl)
set_option maxHeartbeats 100000000 in
/-- THE CARD -/
theorem card : Rows.RecordPositionsCardSaid :=
  Claim7.holds_tied_plain_at .later [] _ _ _ _ said (fun _ h => by cases h) (by as_aux_lemma => kernel_rfl) (fun _ h => by cases h) recordPositions_row_tie rfl ⟨rfl, rfl⟩ (by as_aux_lemma => kernel_rfl) rfl plain (by as_aux_lemma => kernel_rfl)
end Go.Proofs.YtlgajjlnbcbijaaDoor.recordPositions
