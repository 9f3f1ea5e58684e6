/-
  Plain laws: digits from the front; bytes in a row of the call's own; the string of bytes.
-/
import Derived.Test.YtlgajjlnbcbijaaDoorAngL
import Derived.Laws.BytesString
import Derived.Laws.Cells
import Derived.Laws.OwnMore
import Derived.Deep.OwnRows
namespace Go.Proofs.YtlgajjlnbcbijaaDoor
open Go.RowKit
set_option linter.unusedVariables false
set_option linter.unusedSimpArgs false
theorem fixD_front : ∀ (k n : Nat), fixD n (k + 1) = UInt8.ofNat (48 + n / 10 ^ k % 10) :: fixD n k
  | 0, n => by
    show fixD (n / 10) 0 ++ [UInt8.ofNat (48 + n % 10)] = _
    rw [Nat.pow_zero, Nat.div_one]; rfl
  | k + 1, n => by
    have h1 : fixD n (k + 1 + 1) = fixD (n / 10) (k + 1) ++ [UInt8.ofNat (48 + n % 10)] := rfl
    have h2 : fixD n (k + 1) = fixD (n / 10) k ++ [UInt8.ofNat (48 + n % 10)] := rfl
    rw [h1, fixD_front k (n / 10), h2, Nat.div_div_eq_div_mul, Nat.pow_succ, Nat.mul_comm 10 (10 ^ k)]; rfl
/-- the reference's minutes and seconds are the program's -/
theorem sexa_ref (a : Nat) : a / 6000 % 60 = a % 360000 / 6000 ∧ a / 100 % 60 = a % 6000 / 100 := by omega
theorem byteCells_app (a b : List UInt8) : Lib.byteCells (a ++ b) = Lib.byteCells a ++ Lib.byteCells b := by unfold Lib.byteCells; rw [List.map_append]
theorem byteCells_rep (n : Nat) : Lib.byteCells (List.replicate n 48) = List.replicate n (.int .u8 48) := by
  unfold Lib.byteCells; rw [List.map_replicate]; rfl
/-- the zeros, of which the last ones have been overwritten -/
def digMid (l : List UInt8) (N c j : Nat) : List UInt8 := l ++ (List.replicate (c - j) 48 ++ fixD N j)
theorem digMid_zero (l : List UInt8) (N c : Nat) : digMid l N c 0 = l ++ List.replicate c 48 := by unfold digMid fixD; simp
theorem digMid_full (l : List UInt8) (N c : Nat) : digMid l N c c = l ++ fixD N c := by unfold digMid; simp
theorem digMid_len (l : List UInt8) (N c j : Nat) (h : j ≤ c) : (digMid l N c j).length = l.length + c := by
  unfold digMid; rw [List.length_append, List.length_append, List.length_replicate, fixD_len]; omega
theorem set_rep (l t : List Value) (u v : Value) (m : Nat) : (l ++ (List.replicate (m + 1) u ++ t)).set (l.length + m) v = l ++ (List.replicate m u ++ v :: t) := by
  rw [List.set_append_right _ _ (by omega), show l.length + m - l.length = m by omega]
  congr 1
  rw [List.replicate_succ', List.append_assoc, List.set_append_right _ _ (by rw [List.length_replicate]; exact Nat.le_refl _), List.length_replicate, Nat.sub_self]
  rfl
theorem digMid_set (l : List UInt8) (N c j m : Nat) (hm : c - j = m + 1) : (Lib.byteCells (digMid l N c j)).set (l.length + m) (.int .u8 (48 + ((N / 10 ^ j : Nat) : Int) % 10)) = Lib.byteCells (digMid l N c (j + 1)) := by
  unfold digMid
  rw [fixD_front, show c - (j + 1) = m by omega, hm, byteCells_app, byteCells_app, byteCells_app, byteCells_app, byteCells_rep, byteCells_rep]
  have hl : (Lib.byteCells l).length = l.length := by unfold Lib.byteCells; rw [List.length_map]
  have := set_rep (Lib.byteCells l) (Lib.byteCells (fixD N j)) (.int .u8 48) (.int .u8 (48 + ((N / 10 ^ j : Nat) : Int) % 10)) m
  rw [hl] at this
  rw [this]
  congr 2
  show _ = Value.int .u8 (((UInt8.ofNat (48 + N / 10 ^ j % 10)).toNat : Nat) : Int) :: _
  rw [digit_toNat (Nat.mod_lt _ (by decide))]
  congr 2
/-- a row of bytes as a string -/
theorem push_list (l : List UInt8) : ∀ s : ByteArray, ((l.map fun c => (c.toNat : Int)).foldl (fun r n => r.push (UInt8.ofNat n.toNat)) s) = ⟨s.data ++ l.toArray⟩ := by
  induction l with
  | nil => intro s; cases s; simp
  | cons c l ih =>
    intro s
    rw [List.map_cons, List.foldl_cons, ih, Int.toNat_natCast, UInt8.ofNat_toNat]
    cases s
    simp [ByteArray.push]
theorem string_own {base : Nat} {w : World} {v : Value} {l : List UInt8} {n : Nat} (h : w.ownsRow base 5 1 v n (Lib.byteCells l)) (hn : 0 < n) : (convert 77 9 v).run Tryd.prog w = .ok (.string (sb l)) w := by
  have hcs := @World.ownsRow.cells _ _ _ _ _ _ _ h
  obtain ⟨hl, ⟨rfl, rfl⟩ | ⟨g, cap, cur, rfl, hb, hh, hnc, hm, hs, ht⟩⟩ := h
  · omega
  have hlen : (Lib.byteCells l).length = n := by rw [hl]; omega
  have e1 : Lib.byteCells l = (l.map fun c => (c.toNat : Int)).map (Value.int .u8) := by unfold Lib.byteCells; rw [List.map_map]; rfl
  have hload := run_loadCells_list (P := Tryd.prog) (w := w) ⟨g, 0, none⟩ (Lib.byteCells l) (fun j u hu => hcs (g := g) rfl j u hu)
  rw [hlen] at hload
  refine (run_convert_bytes_string w _ _ _ _ _ _ Tryd.underlying77 Tryd.underlying5 Tryd.underlying9).trans ?_
  rw [run_bytesToString w _ n cap _ (by rw [hload, e1]), push_list]
  unfold sb; simp
end Go.Proofs.YtlgajjlnbcbijaaDoor
