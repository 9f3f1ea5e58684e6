/-
  The first error of an airway, the index of a reference, and the points that two airways share are those of the reference: the law AirwayChecks returns true at every two airways and every reference.
  Conditions: the library's tables stand as their initialisers lay them (the row's list, which the card ties to the program's text); the row's own reach (no argument is larger than a machine holds).
-/
import Derived.Test.YtkopjbjkfeopfaaDoorAwOpenN
import Derived.Test.YtkopjbjkfeopfaaDoorLawChk
namespace Go.Proofs.YtkopjbjkfeopfaaDoor.airwayChecks
open Go.ChangeShapes Go.WideShapes Go.ChangeAt Go.RowKit 
open Go.ChangeMaps (open_string shut_string)
set_option linter.unusedVariables false
set_option linter.unusedSimpArgs false

set_option maxRecDepth 100000 in
theorem contract (H : Type) (enc : TypeId × Value → H) (W : World) (base : Nat) (args : Array Value) (ds gs : List (DataW H)) (before : List MemPlace)
    (hval : ∀ (j : Nat) t v, Tryd.f7.params[j]? = some t → args[j]? = some v → Value.okWide Tryd.prog W .any base t v)
    (hW : DataW.Whole enc Tryd.prog Tryd.f7.params.toList Rows.airwayChecksSpec.vars false W args.toList ds gs before) (E : Env W) (hZ : (DataW.weightsEach Tryd.prog (Tryd.f7.params.toList ++ (OpenSpec.ofChange Rows.airwayChecksSpec).bare.plain.varTypes Tryd.prog) (ds ++ gs)).all (· ≤ reachBytes) = true) :
    Calls Tryd.prog 7 args W fun e W' => ∃ v, e = .returned v ∧ Rows.airwayChecksSpec.post enc Tryd.prog Tryd.f7 false true false false W args v W' := by
  have hW' := hW
  obtain ⟨p, q, hA0, hV, rfl, hfz, hnd⟩ := hW
  have hA : DataW.TrodAll enc Tryd.prog W 0 (fun _ => true) true Tryd.f7.params.toList args.toList ds p := hA0
  rw [Tryd.params7] at hA hval hZ
  obtain ⟨v0, vs0, d0, ds0, p0, q0, hargs, rfl, rfl, h0, r0⟩ := trodAll_cons hA
  obtain ⟨v1, vs1, d1, ds1, p1, q1, rfl, rfl, rfl, h1, r1⟩ := trodAll_cons r0
  obtain ⟨v2, vs2, d2, ds2, p2, q2, rfl, rfl, rfl, h2, r2⟩ := trodAll_cons r1
  obtain ⟨rfl, rfl, rfl⟩ := trodAll_nil r2
  obtain rfl : args = #[v0, v1, v2] := by cases args; simp_all
  obtain ⟨rfl, rfl⟩ := trodVars_none hV
  have h0k := h0
  have hlt0 : ∀ x ∈ p0, x.block < W.heap.size := fun x hx => hW'.lt x (by simp [hx])
  obtain ⟨cs0, rfl, hcs0⟩ := okWide_struct Tryd.underlying24 (hval 0 24 v0 rfl rfl)
  obtain ⟨fuel0, hf0⟩ := h0
  obtain ⟨nm, pv, l, e00, e01, he0, h_nm, hp0, hx0, hl0⟩ := open_airway_n hf0
  have hlen0 : l.length ≤ 4398046511104 := by rw [hl0]; exact sized_points hZ (j := 0) rfl (by rw [← hx0]; rfl)
  obtain rfl : cs0 = #[.string nm, pv] := by
    have h : cs0.toList = [.string nm, pv] := he0
    rw [← Array.toArray_toList (xs := cs0), h]
  have h1k := h1
  have hlt1 : ∀ x ∈ p1, x.block < W.heap.size := fun x hx => hW'.lt x (by simp [hx])
  obtain ⟨cs1, rfl, hcs1⟩ := okWide_struct Tryd.underlying24 (hval 1 24 v1 rfl rfl)
  obtain ⟨fuel1, hf1⟩ := h1
  obtain ⟨nm2, pv2, m, e10, e11, he1, h_nm2, hp1, hx1, hl1⟩ := open_airway_n hf1
  have hlen1 : m.length ≤ 4398046511104 := by rw [hl1]; exact sized_points hZ (j := 1) rfl (by rw [← hx1]; rfl)
  obtain rfl : cs1 = #[.string nm2, pv2] := by
    have h : cs1.toList = [.string nm2, pv2] := he1
    rw [← Array.toArray_toList (xs := cs1), h]
  obtain ⟨s, rfl, rfl, rfl, h_s⟩ := open_string Tryd.underlying9 (hval 2 9 v2 rfl rfl) h2
  clear hA0
  refine (airwayChecks_walk nm nm2 s pv pv2 l m W E hp0 hp1 h_nm h_nm2 hlen0).mono fun e W' ⟨he, bel⟩ => ?_
  subst he
  exact ⟨_, rfl, _, _, _, [], _, [], hW', trodAll_mk1 (shut_bool Tryd.underlying4 _), (trodAll_cons_mk (Below.trod laidOut (by kernel_rfl) (of_decide_eq_true (by kernel_rfl)) h0k bel hlt0) (trodAll_cons_mk (Below.trod laidOut (by kernel_rfl) (of_decide_eq_true (by kernel_rfl)) h1k bel hlt1) (trodAll_cons_mk (shut_string Tryd.underlying9 h_s) trodAll_mk0))), rfl, bel.frame _, fun h => by cases h⟩

theorem reads (os : Os) {H : Type} (enc : TypeId × Value → H) : ∃ places, DataW.whole enc Tryd.prog ((laidWorld os).forCall (fun _ _ => 0) ⟨#[], #[.agg #[.string ⟨#[]⟩, .slice none 0 0], .agg #[.string ⟨#[]⟩, .slice none 0 0], .string ⟨#[]⟩], []⟩).memory Tryd.f7.params.toList Rows.airwayChecksSpec.vars false #[Value.agg #[.string ⟨#[]⟩, .slice none 0 0], Value.agg #[.string ⟨#[]⟩, .slice none 0 0], Value.string ⟨#[]⟩].toList 8 = some ([.agg [.lit (.string []), .nil], .agg [.lit (.string []), .nil], .lit (.string [])], [], places) :=
  ⟨[], by kernel_rfl⟩
set_option maxRecDepth 100000 in
theorem lifted (os : Os) (started : os.Started) (H : Type) (enc : TypeId × Value → H) (F : Stop.Interp) :
    ReturnsInHanded {} Tryd.checked os 7 .any ((OpenSpec.ofChange Rows.airwayChecksSpec).preRow enc Tryd.prog Tryd.f7 Rows.airwayChecksRow.domain false Rows.airwayChecksRow.laid) (((OpenSpec.ofChange Rows.airwayChecksSpec).at F).post enc Tryd.prog Tryd.f7 false true false false) := by
  obtain ⟨places, hx⟩ := reads os enc
  refine returnsInHanded_of_row (C := Tryd.checked) (s := (OpenSpec.ofChange Rows.airwayChecksSpec)) own started (by kernel_rfl) Tryd.func7
    (witness_row_at (enc := enc) (C := Tryd.checked) false (laidWorld os) #[.agg #[.string ⟨#[]⟩, .slice none 0 0], .agg #[.string ⟨#[]⟩, .slice none 0 0], .string ⟨#[]⟩] rfl (by kernel_rfl) (by kernel_rfl) (by kernel_rfl)
      (OpenSpec.preRow_of_cond 8 hx (by kernel_rfl) (fun k hk => by cases hk) (by kernel_rfl) (laid_met os _))) ?_
  intro W base args ds gs before hval hW _ _ hZ hL hsh _
  exact contract H enc W base args ds gs before hval hW (env_of_laid hL hsh) hZ
theorem said : Rows.AirwayChecksSaid :=
  OpenClaim.holds_of_cond 7 Tryd.f7 rfl rfl rfl rfl rfl rfl rfl ⟨rfl, rfl, rfl, rfl, rfl⟩ rfl rfl rfl rfl rfl (by kernel_rfl) Tryd.func7 (by kernel_rfl)
    (of_decide_eq_true (by kernel_rfl)) (by unfold Func.isWrapper; first | (rw [if_pos (by decide +kernel)]; kernel_rfl) | (rw [if_neg (by decide +kernel)]; exact ⟨rfl, rfl⟩))
    (fun os started H enc _ F => by rw [OpenClaim.pre_eq_preRow]; exact lifted os started H enc F)
theorem plain (f : FuncId) (fn : Func) (hf : Tryd.pinned.checked.prog.funcNamed "flightdeck/flightdecklaw15.AirwayChecks" = some f) (hfn : Tryd.pinned.checked.prog.funcs[f]? = some fn) :
    false = Tryd.pinned.checked.prog.looks [] ∧ ∀ (j : Nat) t, fn.params[j]? = some t → Tryd.pinned.checked.prog.wantsStandIn t = false := by
  obtain rfl : f = 7 := Option.some.inj ((show Tryd.prog.funcNamed "flightdeck/flightdecklaw15.AirwayChecks" = some 7 by kernel_rfl).symm.trans hf) |>.symm
  obtain rfl : fn = Tryd.f7 := (Option.some.inj (Tryd.func7.symm.trans hfn)).symm
  refine ⟨by kernel_rfl, fun j t ht => ?_⟩
  rw [Tryd.params7] at ht
  obtain rfl | rfl : t = 24 ∨ t = 9 := by simpa using Array.mem_of_getElem? ht
  · exact (show Tryd.prog.wantsStandIn 24 = false by kernel_rfl)
  · exact (show Tryd.prog.wantsStandIn 9 = false by kernel_rfl)
/-- THE CARD -/
theorem card : Rows.AirwayChecksCardSaid :=
  Claim7.holds_tied_plain_at .later [] _ _ _ _ said (fun _ h => by cases h) (by kernel_rfl) (fun _ h => by cases h) airwayChecks_row_tie rfl ⟨rfl, rfl⟩ (by kernel_rfl) rfl plain (by kernel_rfl)
end Go.Proofs.YtkopjbjkfeopfaaDoor.airwayChecks
