/-
  Several texts as one.
  What the rows of this seat share: the world that the rows' list gives (Env), and a world for the witnesses.
  The closed facts of a card, and the card out of its contract.
-/
import Derived.Test.YtakgcdefbbgdaaaGreatDoorBase
import Derived.Test.YtakgcdefbbgdaaaGreatDoorCards
import Derived.Test.YtakgcdefbbgdaaaGreatDoorTie
import Derived.ProofKit
import Derived.OpenShut
import Derived.ShutString
import Derived.Deep.DeepHandedRow
import Derived.Deep.DeepLaidRun
import Derived.Lib.LaidTab
import Derived.Stop.LaidErr
namespace Go.Proofs.YtakgcdefbbgdaaaGreatDoor
open Go.ChangeShapes Go.WideShapes Go.ChangeAt Go.RowKit
set_option linter.unusedVariables false
set_option linter.unusedSimpArgs false

theorem own : ownKnob Tryz.prog.godebug = none := by kernel_rfl
theorem laidOut : laidOutB Tryz.prog = true := by kernel_rfl
/-- the list that every row of this seat bears -/
def laidList : List (String × DataW Unit) := Rows.navdbLimitsRow.laid
theorem gPow10Type : (Tryz.prog.globals[7]?).map (·.type) = some 299 := by kernel_rfl
theorem cellsPow10 : Tryz.prog.cellsOf 299 = 20 := by kernel_rfl
theorem cellsU64 : Tryz.prog.cellsOf 277 = 1 := by kernel_rfl
theorem gErrR : Tryz.prog.globalNamed "strconv.ErrRange" = some 9 := by kernel_rfl
theorem gErrS : Tryz.prog.globalNamed "strconv.ErrSyntax" = some 8 := by kernel_rfl
theorem gErrRType : (Tryz.prog.globals[9]?).map (·.type) = some 46 := by kernel_rfl
theorem gErrSType : (Tryz.prog.globals[8]?).map (·.type) = some 46 := by kernel_rfl
theorem star : "*" ++ "errors.errorString" = "*errors.errorString" := by decide
theorem rowErr (u : TypeId) (h : Tryz.prog.typeName? 3 u = some "*errors.errorString") : u = 317 :=
  typeName_ptr_named (nm := "errors.errorString") (by rw [star]; kernel_rfl) (by kernel_rfl) (by decide) u (by rw [star]; exact h)
theorem cellsErrS : Tryz.prog.cellsOf 319 = 1 := by kernel_rfl
theorem cellsStr : Tryz.prog.cellsOf 9 = 1 := by kernel_rfl
theorem env_of_laid {W : World} (hL0 : laidMetH Tryz.prog laidList W) (hsh : W.ShapedOpen Tryz.prog) : Env W := by
  have hL : laidMet Tryz.prog laidList W := hL0
  have h3 := hL.tail.tail
  have h5 := h3.tail.tail
  have h6 := h5.tail
  obtain ⟨a1, s1, v1, _⟩ := laid_sentinel h5 gErrR gErrRType Tryz.underlying46 rowErr Tryz.underlying317 Tryz.underlying319 rfl rfl Tryz.underlying9 cellsErrS cellsStr
  obtain ⟨a2, s2, v2, _⟩ := laid_sentinel h6 gErrS gErrSType Tryz.underlying46 rowErr Tryz.underlying317 Tryz.underlying319 rfl rfl Tryz.underlying9 cellsErrS cellsStr
  obtain ⟨m, hm⟩ := Go.Proofs.cell_of_shapedOpen_int (g := 2) (zero := #[.int .i64 0]) (t := 3) hsh (of_decide_eq_true (by kernel_rfl)) (by kernel_rfl) rfl (by kernel_rfl) (by kernel_rfl) Tryz.underlying3
  refine ⟨⟨m, hm⟩, Lib.tabIs_of_head gPow10 gPow10Type Tryz.underlying299 Tryz.underlying277 cellsU64 cellsPow10 h3, ⟨_, _, World.var?_cell gErrR v1 0⟩, ⟨_, _, World.var?_cell gErrS v2 0⟩, ?_⟩
  obtain ⟨cs, h7, _⟩ := hsh.1 (12 - 1) (((begin Tryz.prog (fun _ _ => 0) default).world.heap[12 - 1]?).bind Obj.row?).get!.1 (((begin Tryz.prog (fun _ _ => 0) default).world.heap[12 - 1]?).bind Obj.row?).get!.2 (of_decide_eq_true (by kernel_rfl)) (by kernel_rfl)
  have := (Array.getElem?_eq_some_iff.1 h7).1
  omega

/-! ### a world for the witnesses -/
def oneOf : DataW Unit → Value
  | .lit (.int k n) => .int k n
  | .lit (.string l) => .string ⟨l.toArray⟩
  | _ => .nilIface
def cells1 : DataW Unit → List Value
  | .agg l => l.map oneOf
  | d => [oneOf d]
def cells2 : DataW Unit → Array Value
  | .agg l => (l.flatMap cells1).toArray
  | _ => #[]
noncomputable def low : Nat := (World.holding Tryz.prog default ⟨#[], #[], []⟩).heap.size
def put (cs : Array Value) : Obj → Obj
  | .cells _ t frozen => .cells cs t frozen
  | o => o
noncomputable def laidWorld (os : Os) : World :=
  { World.holding Tryz.prog os ⟨#[.cells #[.string ⟨#[118, 97, 108, 117, 101, 32, 111, 117, 116, 32, 111, 102, 32, 114, 97, 110, 103, 101]⟩] 319, .cells #[.string ⟨#[105, 110, 118, 97, 108, 105, 100, 32, 115, 121, 110, 116, 97, 120]⟩] 319], #[], []⟩ with
    heap := (((((((((World.holding Tryz.prog os ⟨#[.cells #[.string ⟨#[118, 97, 108, 117, 101, 32, 111, 117, 116, 32, 111, 102, 32, 114, 97, 110, 103, 101]⟩] 319, .cells #[.string ⟨#[105, 110, 118, 97, 108, 105, 100, 32, 115, 121, 110, 116, 97, 120]⟩] 319], #[], []⟩).heap.modify
      7 (put (cells2 Rows.laid_internal_strconv_uint64pow10))).modify
      10 (put (cells2 Rows.laid_math_bits_deBruijn32tab))).modify
      11 (put (cells2 Rows.laid_math_bits_deBruijn64tab))).modify
      4 (put (cells2 Rows.laid_unicode_utf8_acceptRanges))).modify
      3 (put (cells2 Rows.laid_unicode_utf8_first))).modify
      1 (put (cells2 Rows.laid_flightdeck_leg_names))).modify
      0 (put (cells2 Rows.laid_flightdeck_leg_uses))).modify
      9 (put #[.iface 317 (.pointer (some ⟨low, 0, none⟩))])).modify
      8 (put #[.iface 317 (.pointer (some ⟨low + 1, 0, none⟩))]) }
theorem laid_met (os : Os) (args : Array Value) : laidMet Tryz.prog laidList ((laidWorld os).forCall (fun _ _ => 0) ⟨#[], args, []⟩).memory :=
  laidMet_of_run3 8 (by kernel_rfl) (by kernel_rfl) (by kernel_rfl)
end Go.Proofs.YtakgcdefbbgdaaaGreatDoor
namespace Go.Proofs.YtakgcdefbbgdaaaGreatDoor.navdbLimits
open Go.ChangeShapes Go.WideShapes Go.ChangeAt Go.RowKit 
open Go.ChangeMaps (open_string shut_string)
set_option linter.unusedVariables false
set_option linter.unusedSimpArgs false

/-- what the law's walk gives -/
def Contract : Prop := ∀ (H : Type) (enc : TypeId × Value → H) (W : World) (base : Nat) (args : Array Value) (ds gs : List (DataW H)) (before : List MemPlace)
    (hval : ∀ (j : Nat) t v, Tryz.f4.params[j]? = some t → args[j]? = some v → Value.okWide Tryz.prog W .any base t v)
    (hW : DataW.Whole enc Tryz.prog Tryz.f4.params.toList Rows.navdbLimitsSpec.vars false W args.toList ds gs before) (E : Env W), Calls Tryz.prog 4 args W fun e W' => ∃ v, e = .returned v ∧ Rows.navdbLimitsSpec.post enc Tryz.prog Tryz.f4 false true false false W args v W'
theorem reads (os : Os) {H : Type} (enc : TypeId × Value → H) : ∃ places, DataW.whole enc Tryz.prog ((laidWorld os).forCall (fun _ _ => 0) ⟨#[], #[.int .u8 0], []⟩).memory Tryz.f4.params.toList Rows.navdbLimitsSpec.vars false #[Value.int .u8 0].toList 8 = some ([.lit (.int .u8 0)], [], places) :=
  ⟨[], by kernel_rfl⟩
set_option maxRecDepth 100000 in
theorem lifted (contract : Contract) (os : Os) (started : os.Started) (H : Type) (enc : TypeId × Value → H) (F : Stop.Interp) :
    ReturnsInHanded {} Tryz.checked os 4 .any ((OpenSpec.ofChange Rows.navdbLimitsSpec).preRow enc Tryz.prog Tryz.f4 Rows.navdbLimitsRow.domain false Rows.navdbLimitsRow.laid) (((OpenSpec.ofChange Rows.navdbLimitsSpec).at F).post enc Tryz.prog Tryz.f4 false true false false) := by
  obtain ⟨places, hx⟩ := reads os enc
  refine returnsInHanded_of_row (C := Tryz.checked) (s := (OpenSpec.ofChange Rows.navdbLimitsSpec)) own started (by kernel_rfl) Tryz.func4
    (witness_row_at (enc := enc) (C := Tryz.checked) false (laidWorld os) #[.int .u8 0] rfl (by kernel_rfl) (by kernel_rfl) (by kernel_rfl)
      (OpenSpec.preRow_of_cond 8 hx (by kernel_rfl) (fun k hk => by cases hk) (by kernel_rfl) (laid_met os _))) ?_
  intro W base args ds gs before hval hW _ _ _ hL hsh _
  exact contract H enc W base args ds gs before hval hW (env_of_laid hL hsh)
theorem and_t {a b : Bool} (h : a = true) (k : b = true) : (a && b) = true := by rw [h, k]; rfl
set_option maxHeartbeats 100000000 in
theorem facts : joinedFacts Tryz.prog 4 Tryz.f4 ((OpenSpec.ofChange Rows.navdbLimitsSpec)).bare Rows.navdbLimitsRow = true := by
  unfold joinedFacts
  repeat' (with_reducible apply and_t)
  all_goals as_aux_lemma => kernel_rfl
set_option maxHeartbeats 100000000 in
theorem saidOf (contract : Contract) : Rows.NavdbLimitsSaid :=
  OpenClaim.holds_of_cond 4 Tryz.f4 rfl rfl rfl rfl rfl rfl rfl ⟨rfl, rfl, rfl, rfl, rfl⟩ rfl rfl rfl rfl rfl (by as_aux_lemma => kernel_rfl) Tryz.func4 facts
    (of_decide_eq_true (by kernel_rfl)) (by unfold Func.isWrapper; first | (rw [if_pos (by decide +kernel)]; kernel_rfl) | (rw [if_neg (by decide +kernel)]; exact ⟨rfl, rfl⟩))
    (fun os started H enc _ F => by rw [OpenClaim.pre_eq_preRow]; exact lifted contract os started H enc F)
theorem plain (f : FuncId) (fn : Func) (hf : Tryz.pinned.checked.prog.funcNamed "flightdeck/flightdecklaw18.NavdbLimits" = some f) (hfn : Tryz.pinned.checked.prog.funcs[f]? = some fn) :
    true = Tryz.pinned.checked.prog.looks [] ∧ ∀ (j : Nat) t, fn.params[j]? = some t → Tryz.pinned.checked.prog.wantsStandIn t = false := by
  obtain rfl : f = 4 := Option.some.inj ((show Tryz.prog.funcNamed "flightdeck/flightdecklaw18.NavdbLimits" = some 4 by kernel_rfl).symm.trans hf) |>.symm
  obtain rfl : fn = Tryz.f4 := (Option.some.inj (Tryz.func4.symm.trans hfn)).symm
  refine ⟨by kernel_rfl, fun j t ht => ?_⟩
  rw [Tryz.params4] at ht
  obtain rfl : t = 5 := by simpa using Array.mem_of_getElem? ht
  · exact (show Tryz.prog.wantsStandIn 5 = false by kernel_rfl)
set_option maxHeartbeats 100000000 in
theorem cardOf (contract : Contract) : Rows.NavdbLimitsCardSaid :=
  Claim7.holds_tied_plain_at .later [] _ _ _ _ (saidOf contract) (fun _ h => by cases h) (by as_aux_lemma => kernel_rfl) (fun _ h => by cases h) navdbLimits_row_tie rfl ⟨rfl, rfl⟩ (by as_aux_lemma => kernel_rfl) rfl plain (by as_aux_lemma => kernel_rfl)
end Go.Proofs.YtakgcdefbbgdaaaGreatDoor.navdbLimits
