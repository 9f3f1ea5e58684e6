/-
  The nearest fixes in order, or the error, are those of the reference: the law FixNear returns true at every list of fixes, every position and every number.
  Conditions: the library's tables and errors stand as their initialisers lay them (the row's list, which the card ties to the program's text); the row's own reach (no argument is larger than a machine holds).
-/
import Derived.Test.YteojggbmkppjoaaGreatDoorFixOpen
import Derived.Test.YteojggbmkppjoaaGreatDoorRowB
import Derived.Test.YteojggbmkppjoaaGreatDoorLawNear
import Derived.Lib.SmallJoins
namespace Go.Proofs.YteojggbmkppjoaaGreatDoor.fixNear
open Go.ChangeShapes Go.WideShapes Go.ChangeAt Go.RowKit Go.Joins
open Go.ChangeMaps (open_string shut_string)
set_option linter.unusedVariables false
set_option linter.unusedSimpArgs false

set_option maxRecDepth 100000 in
theorem contract (H : Type) (enc : TypeId × Value → H) (W : World) (base : Nat) (args : Array Value) (ds gs : List (DataW H)) (before : List MemPlace)
    (hval : ∀ (j : Nat) t v, Tryz.f3.params[j]? = some t → args[j]? = some v → Value.okWide Tryz.prog W .any base t v)
    (hW : DataW.Whole enc Tryz.prog Tryz.f3.params.toList Rows.fixNearSpec.vars false W args.toList ds gs before) (E : Env W) (hZ : (DataW.weightsEach Tryz.prog (Tryz.f3.params.toList ++ (OpenSpec.ofChange Rows.fixNearSpec).bare.plain.varTypes Tryz.prog) (ds ++ gs)).all (· ≤ reachBytes) = true) :
    Calls Tryz.prog 3 args W fun e W' => ∃ v, e = .returned v ∧ Rows.fixNearSpec.post enc Tryz.prog Tryz.f3 false true false false W args v W' := by
  have hW' := hW
  obtain ⟨p, q, hA0, hV, rfl, hfz, hnd⟩ := hW
  have hA : DataW.TrodAll enc Tryz.prog W 0 (fun _ => true) true Tryz.f3.params.toList args.toList ds p := hA0
  rw [Tryz.params3] at hA hval hZ
  obtain ⟨v0, vs0, d0, ds0, p0, q0, hargs, rfl, rfl, h0, r0⟩ := trodAll_cons hA
  obtain ⟨v1, vs1, d1, ds1, p1, q1, rfl, rfl, rfl, h1, r1⟩ := trodAll_cons r0
  obtain ⟨v2, vs2, d2, ds2, p2, q2, rfl, rfl, rfl, h2, r2⟩ := trodAll_cons r1
  obtain ⟨rfl, rfl, rfl⟩ := trodAll_nil r2
  obtain rfl : args = #[v0, v1, v2] := by cases args; simp_all
  obtain ⟨rfl, rfl⟩ := trodVars_none hV
  have h0k := h0
  have hlt0 : ∀ x ∈ p0, x.block < W.heap.size := fun x hx => hW'.lt x (by simp [hx])
  obtain ⟨a0, n0, c0, rfl⟩ := okWide_slice Tryz.underlying22 (hval 0 22 v0 rfl rfl)
  obtain ⟨fuel0, hf0⟩ := h0
  obtain ⟨l, hp0, hx0⟩ := open_fixes hf0
  have hz0 := sized_fixes hZ (j := 0) rfl rfl hx0
  obtain ⟨u10, u11, y10, y11, nn1, rfl, rfl, rfl, t10, t11⟩ := open_agg2 Tryz.underlying24 (by kernel_rfl) (by kernel_rfl) (hval 1 24 v1 rfl rfl) h1
  obtain ⟨la, e10, rfl, h_la⟩ := DataW.trod_int Tryz.underlying2 t10
  obtain rfl : u10 = .int .i64 la := by simpa using e10
  obtain ⟨lo, e11, rfl, h_lo⟩ := DataW.trod_int Tryz.underlying2 t11
  obtain rfl : u11 = .int .i64 lo := by simpa using e11
  obtain ⟨n, rfl, rfl, rfl, h_n⟩ := open_int Tryz.underlying3 (hval 2 3 v2 rfl rfl) h2
  clear hA0
  refine (fixNear_walk _ l la lo n W E hp0 hz0).mono fun e W' ⟨he, bel⟩ => ?_
  subst he
  exact ⟨_, rfl, _, _, _, [], _, [], hW', trodAll_mk1 (shut_bool Tryz.underlying4 _), (trodAll_cons_mk (Below.trod laidOut (by kernel_rfl) (of_decide_eq_true (by kernel_rfl)) h0k bel hlt0) (trodAll_cons_mk (shut_agg2 Tryz.underlying24 (by kernel_rfl) (by kernel_rfl) (shut_int Tryz.underlying2 h_la) (shut_int Tryz.underlying2 h_lo)) (trodAll_cons_mk (shut_int Tryz.underlying3 h_n) trodAll_mk0))), rfl, bel.frame _, fun h => by cases h⟩

theorem reads (os : Os) {H : Type} (enc : TypeId × Value → H) : ∃ places, DataW.whole enc Tryz.prog ((laidWorld os).forCall (fun _ _ => 0) ⟨#[], #[.slice none 0 0, .agg #[.int .i64 0, .int .i64 0], .int .i64 0], []⟩).memory Tryz.f3.params.toList Rows.fixNearSpec.vars false #[Value.slice none 0 0, Value.agg #[.int .i64 0, .int .i64 0], Value.int .i64 0].toList 8 = some ([.nil, .agg [.lit (.int .i64 0), .lit (.int .i64 0)], .lit (.int .i64 0)], [], places) :=
  ⟨[], by kernel_rfl⟩
set_option maxRecDepth 100000 in
theorem lifted (os : Os) (started : os.Started) (H : Type) (enc : TypeId × Value → H) (F : Stop.Interp) :
    ReturnsInHanded {} Tryz.checked os 3 .any ((OpenSpec.ofChange Rows.fixNearSpec).preRow enc Tryz.prog Tryz.f3 Rows.fixNearRow.domain false Rows.fixNearRow.laid) (((OpenSpec.ofChange Rows.fixNearSpec).at F).post enc Tryz.prog Tryz.f3 false true false false) := by
  obtain ⟨places, hx⟩ := reads os enc
  refine returnsInHanded_of_row (C := Tryz.checked) (s := (OpenSpec.ofChange Rows.fixNearSpec)) own started (by kernel_rfl) Tryz.func3
    (witness_row_at (enc := enc) (C := Tryz.checked) false (laidWorld os) #[.slice none 0 0, .agg #[.int .i64 0, .int .i64 0], .int .i64 0] rfl (by kernel_rfl) (by kernel_rfl) (by kernel_rfl)
      (OpenSpec.preRow_of_cond 8 hx (by kernel_rfl) (fun k hk => by cases hk) (by kernel_rfl) (laid_met os _))) ?_
  intro W base args ds gs before hval hW _ _ hZ hL hsh _
  exact contract H enc W base args ds gs before hval hW (env_of_laid hL hsh) hZ
theorem and_t {a b : Bool} (h : a = true) (k : b = true) : (a && b) = true := by rw [h, k]; rfl
set_option maxHeartbeats 100000000 in
theorem facts : joinedFacts Tryz.prog 3 Tryz.f3 ((OpenSpec.ofChange Rows.fixNearSpec)).bare Rows.fixNearRow = true := by
  unfold joinedFacts
  repeat' (with_reducible apply and_t)
  all_goals as_aux_lemma => kernel_rfl
set_option maxHeartbeats 100000000 in
theorem said : Rows.FixNearSaid :=
  OpenClaim.holds_of_cond 3 Tryz.f3 rfl rfl rfl rfl rfl rfl rfl ⟨rfl, rfl, rfl, rfl, rfl⟩ rfl rfl rfl rfl rfl (by as_aux_lemma => kernel_rfl) Tryz.func3 facts
    (of_decide_eq_true (by kernel_rfl)) (by unfold Func.isWrapper; first | (rw [if_pos (by decide +kernel)]; kernel_rfl) | (rw [if_neg (by decide +kernel)]; exact ⟨rfl, rfl⟩))
    (fun os started H enc _ F => by rw [OpenClaim.pre_eq_preRow]; exact lifted os started H enc F)
theorem plain (f : FuncId) (fn : Func) (hf : Tryz.pinned.checked.prog.funcNamed "flightdeck/flightdecklaw14.FixNear" = some f) (hfn : Tryz.pinned.checked.prog.funcs[f]? = some fn) :
    true = Tryz.pinned.checked.prog.looks [] ∧ ∀ (j : Nat) t, fn.params[j]? = some t → Tryz.pinned.checked.prog.wantsStandIn t = false := by
  obtain rfl : f = 3 := Option.some.inj ((show Tryz.prog.funcNamed "flightdeck/flightdecklaw14.FixNear" = some 3 by kernel_rfl).symm.trans hf) |>.symm
  obtain rfl : fn = Tryz.f3 := (Option.some.inj (Tryz.func3.symm.trans hfn)).symm
  refine ⟨by kernel_rfl, fun j t ht => ?_⟩
  rw [Tryz.params3] at ht
  obtain rfl | rfl | rfl : t = 22 ∨ t = 24 ∨ t = 3 := by simpa using Array.mem_of_getElem? ht
  · exact (show Tryz.prog.wantsStandIn 22 = false by kernel_rfl)
  · exact (show Tryz.prog.wantsStandIn 24 = false by kernel_rfl)
  · exact (show Tryz.prog.wantsStandIn 3 = false by kernel_rfl)
set_option maxHeartbeats 100000000 in
/-- THE CARD -/
theorem card : Rows.FixNearCardSaid :=
  Claim7.holds_tied_plain_at .later [] _ _ _ _ said (fun _ h => by cases h) (by as_aux_lemma => kernel_rfl) (fun _ h => by cases h) fixNear_row_tie rfl ⟨rfl, rfl⟩ (by as_aux_lemma => kernel_rfl) rfl plain (by as_aux_lemma => kernel_rfl)
end Go.Proofs.YteojggbmkppjoaaGreatDoor.fixNear
