/-
  Maps of strings to truth values; order, counted.
-/
import Derived.Test.YtakgcdefbbgdaaaGreatDoorMG01
import Derived.Test.YtakgcdefbbgdaaaGreatDoorMG08
import Derived.Test.YtakgcdefbbgdaaaGreatDoorMG13
namespace Go.Proofs.YtakgcdefbbgdaaaGreatDoor
open Go.RowKit Go.Lib
set_option linter.unusedVariables false
set_option linter.unusedSimpArgs false
def rdB : Value → Option (DataW Unit × List MemPlace)
  | .bool b => some (.lit (.bool b), [])
  | _ => none
def elmB : Elm Bool where
  val c := .bool c
  dat c := .lit (.bool c)
  rd := rdB
  rd_mk c := rfl
  inv v y h := by
    unfold rdB at h
    split at h
    · simp only [Option.some.injEq] at h
      exact ⟨_, rfl, h.symm⟩
    · cases h
  inj a b h := by
    injection h with h
    injection h with h
theorem zeroB (w : World) : (zeroValue 4).run Tryz.prog w = .ok (elmB.val false) w := by kernel_rfl
section
variable {w : World} {ops : Array Oper} {rest : List Oper} {o : Oper} {a : Act} {Q : Exit → Act → World → Prop}
theorem wpList_lookB (hg : o.guard = none) (m x : Operand) (hop : o.op = Op.lookup 87 m x false) (b n : Nat) (mm : List UInt8 → Option Bool)
    (hm : a.eval m = .map (some b)) (h : MapF elmB w b n mm) (r : List UInt8) (hx : a.eval x = .string (sb r)) (hs : r.length ≤ maxLen)
    (hK : wpList Tryz.prog ops Q rest (a.put o.dst (.bool ((mm r).getD false))) w) :
    wpList Tryz.prog ops Q (o :: rest) a w := by
  refine wpList_getF w hg m x _ hop 4 Tryz.underlying87 false (zeroB w) b n mm hm h (sb r) hx hs ?_
  rw [bl_sb]
  cases hc : mm r with
  | none => rw [hc] at hK; exact hK
  | some p => rw [hc] at hK; exact hK
theorem wpList_putB (hg : o.guard = none) (m x v : Operand) (hop : o.op = Op.mapUpdate 87 m x v) (b n : Nat) (mm : List UInt8 → Option Bool)
    (hm : a.eval m = .map (some b)) (h : MapF elmB w b n mm) (hn : n < maxLen) (r : List UInt8) (l : Bool) (hx : a.eval x = .string (sb r)) (hv : a.eval v = .bool l) (hs : r.length ≤ maxLen)
    (hK : ∀ w', Hid (MapF elmB w' b (n + 1) (setK mm r (some l))) → Hid (w.grownBy w' (some b)) → wpList Tryz.prog ops Q rest (a.put o.dst undef) w') :
    wpList Tryz.prog ops Q (o :: rest) a w := by
  refine wpList_putF w hg m x v _ hop 4 Tryz.underlying87 b n mm hm h hn (sb r) l hx hv hs ?_
  intro w' h1 h2
  rw [bl_sb] at h1
  exact hK w' h1 h2
end
theorem norder_any (c : Int) (w : World) : Calls Tryz.prog 26 #[.int .i64 c] w fun e w' => e = .returned (.int .i64 (if c = 0 then 7 else if c < 0 then 9 else 0)) ∧ w = w' := by
  by_cases h0 : c = 0
  · subst h0
    go_enter Tryz.func26, Tryz.ntmps26
    go_wp2
    go_ret
    exact ⟨rfl, rfl⟩
  · have e0 : (c == 0) = false := beq_eq_false_iff_ne.2 h0
    by_cases h1 : c < 0
    · go_enter Tryz.func26, Tryz.ntmps26
      go_wp2
      go_ret
      exact ⟨by first | rfl | simp_all, rfl⟩
    · go_enter Tryz.func26, Tryz.ntmps26
      go_wp2
      go_ret
      exact ⟨by first | rfl | simp_all, rfl⟩
theorem counted_any (n m : Int) (b : Bool) (w : World) : Calls Tryz.prog 53 #[.int .i64 n, .int .i64 m, .bool b] w fun e w' => e = .returned (.int .i64 (if m < n then 3 else if b then 7 else 0)) ∧ w = w' := by
  by_cases h0 : m < n
  · go_enter Tryz.func53, Tryz.ntmps53
    go_wp2
    go_ret
    exact ⟨by first | rfl | simp_all, rfl⟩
  · cases b
    · go_enter Tryz.func53, Tryz.ntmps53
      go_wp2
      go_ret
      exact ⟨by first | rfl | simp_all, rfl⟩
    · go_enter Tryz.func53, Tryz.ntmps53
      go_wp2
      go_ret
      exact ⟨by first | rfl | simp_all, rfl⟩
end Go.Proofs.YtakgcdefbbgdaaaGreatDoor
