/-
  Laws: a struct of many cells is loaded at once; it is stored at once into the block that was made last.
-/
import Derived.Test.YtakgcdefbbgdaaaGreatDoorBase
import Derived.Laws.Rows
import Derived.Deep.WholeRow
namespace Go.Proofs.YtakgcdefbbgdaaaGreatDoor
open Go.RowKit
set_option linter.unusedVariables false
set_option linter.unusedSimpArgs false
section
variable {P : Program} {ops : Array Oper} {rest : List Oper} {o : Oper} {a : Act} {w : World} {Q : Exit → Act → World → Prop}
theorem wpList_load_wide (hgd : o.guard = none) (ty : TypeId) (x : Operand) (ho : o.op = .load ty x) (g k : Nat) (hx : a.eval x = .pointer (some ⟨g, k, none⟩)) (cs : List Value) (n : Nat) (hn : cs.length = n)
    (ha : (isAgg ty).run P w = .ok true w) (hs : (Go.sizeOf ty).run P w = .ok n w) (hc : ∀ j u, cs[j]? = some u → w.cell? ⟨g, k + j, none⟩ = some u)
    (h : wpList P ops Q rest (a.put o.dst (.agg cs.toArray)) w) : wpList P ops Q (o :: rest) a w := by
  have hl : (loadCells ⟨g, k, none⟩ cs.length).run P w = .ok cs.toArray w := run_loadCells_list (P := P) w ⟨g, k, none⟩ cs (fun j v hv => by
    have hadd : (⟨g, k, none⟩ : Addr).add j = ⟨g, k + j, none⟩ := by unfold Addr.add; split <;> simp_all
    rw [hadd]; exact hc j v hv)
  rw [hn] at hl
  have hlv : (loadVar ty ⟨g, k, none⟩).run P w = .ok (.agg cs.toArray) w := by
    simp [loadVar, Sem.run_bind, ha, hs, hl]
  refine wpList_plain hgd fun _ hK => ?_
  unfold Oper.wp execOp
  simp only [ho, hx, Instr.loadAt, Instr.sureAddr, Sem.run_bind, Sem.run_pure, Result.andThen_ok, hlv]
  exact hK _ _ h
theorem wpList_store_last (W : World) (old : Array Value) (hgd : o.guard = none) (ty : TypeId) (x y : Operand) (ho : o.op = .store ty x y) (hx : a.eval x = .pointer (some ⟨W.heap.size, 0, none⟩)) (cs : List Value) (hy : a.eval y = .agg cs.toArray)
    (hi : (P.info? ty).map (·.size) = some cs.length) (hold : old.size = cs.length) (h1 : ∀ u ∈ cs, u.oneCell' = true)
    (h : wpList P ops Q rest (a.put o.dst undef) (W.alloc (.cells cs.toArray ty))) : wpList P ops Q (o :: rest) a (W.alloc (.cells old ty)) := by
  refine wpList_plain hgd fun _ hK => ?_
  unfold Oper.wp execOp
  have := run_storeAt_new (P := P) W ty old cs.toArray (by simpa using hi) (by simpa using hold) (by simpa using h1)
  simp only [ho, hx, hy, Sem.run_bind, Sem.run_pure, Result.andThen_ok, this]
  exact hK _ _ h
end
end Go.Proofs.YtakgcdefbbgdaaaGreatDoor
