/-
  Contracts: strings.Cut at one byte, at any string; references of fixes: SplitRef of both sides.
-/
import Derived.Test.YtlgajjlnbcbijaaDoorCut
namespace Go.Proofs.YtlgajjlnbcbijaaDoor
open Go.RowKit
set_option linter.unusedVariables false
set_option linter.unusedSimpArgs false

/-! ### regions of two letters or digits -/
def shortB (l : List UInt8) : Bool := l.length == 2 && l.all nameC
theorem shortB_len {s : ByteArray} (h : ¬ s.size = 2) : shortB (bl s) = false := by
  unfold shortB
  have : ((bl s).length == 2) = false := by rw [beq_eq_false_iff_ne]; exact h
  rw [this]; rfl
theorem shortB_of {s : ByteArray} (h : s.size = 2) : shortB (bl s) = (bl s).all nameC := by
  unfold shortB
  have : ((bl s).length == 2) = true := by rw [beq_iff_eq]; exact h
  rw [this]; rfl
theorem short_no {s : ByteArray} {k : Nat} (h2 : s.size = 2) (hk : k < s.size) (h : (s[k].toNat : Int) < 65 ∨ 90 < (s[k].toNat : Int)) (h' : (s[k].toNat : Int) < 48 ∨ 57 < (s[k].toNat : Int)) : false = shortB (bl s) := by
  rw [shortB_of h2, all_false_at (l := bl s) (k := k) hk (nameC_no h h')]
theorem nameC_ways (c : UInt8) : (Hid (nameC c = true) ∧ ((65 ≤ (c.toNat : Int) ∧ (c.toNat : Int) ≤ 90) ∨ ((c.toNat : Int) < 65 ∧ 48 ≤ (c.toNat : Int) ∧ (c.toNat : Int) ≤ 57))) ∨
    (Hid (nameC c = false) ∧ (((c.toNat : Int) < 65 ∧ (c.toNat : Int) < 48) ∨ ((c.toNat : Int) < 65 ∧ 48 ≤ (c.toNat : Int) ∧ 57 < (c.toNat : Int)) ∨ (65 ≤ (c.toNat : Int) ∧ 90 < (c.toNat : Int) ∧ 48 ≤ (c.toNat : Int) ∧ 57 < (c.toNat : Int)))) := by
  by_cases h : (65 ≤ (c.toNat : Int) ∧ (c.toNat : Int) ≤ 90) ∨ (48 ≤ (c.toNat : Int) ∧ (c.toNat : Int) ≤ 57)
  · exact .inl ⟨nameC_yes h, by omega⟩
  · exact .inr ⟨nameC_no (by omega) (by omega), by omega⟩

/-! ### references -/
def refB (a b : List UInt8) : Bool := nameB a 6 && (nameB b 6 || shortB b)
def refErr (l : List UInt8) : Int := if (cutAt 47 l).2.2 then (if refB (cutAt 47 l).1 (cutAt 47 l).2.1 then 0 else 5) else 4
def refFst (l : List UInt8) : List UInt8 := if refErr l = 0 then (cutAt 47 l).1 else []
def refSnd (l : List UInt8) : List UInt8 := if refErr l = 0 then (cutAt 47 l).2.1 else []
def RefTPost (s : ByteArray) (w : World) (e : Ending) (w' : World) : Prop :=
  ∃ a b, e = .returned (.tuple #[.string a, .string b, .int .i64 (refErr (bl s))]) ∧ Hid (bl a = refFst (bl s)) ∧ Hid (bl b = refSnd (bl s)) ∧ a.size ≤ s.size ∧ b.size ≤ s.size ∧ Drawn w w'
theorem refErr_no {s : ByteArray} {x y : List UInt8} (h : cutAt 47 (bl s) = (x, y, false)) : refErr (bl s) = 4 := by unfold refErr; rw [h]; rfl
theorem refErr_yes {s : ByteArray} {x y : List UInt8} (h : cutAt 47 (bl s) = (x, y, true)) : refErr (bl s) = if refB x y then 0 else 5 := by unfold refErr; rw [h]; rfl
theorem refTPost_bad {s : ByteArray} {w w' : World} {n : Int} (h : refErr (bl s) = n) (h0 : n ≠ 0) (hd : Drawn w w') : RefTPost s w (.returned (.tuple #[.string ⟨#[]⟩, .string ⟨#[]⟩, .int .i64 n])) w' := by
  subst h
  refine ⟨_, _, rfl, ?_, ?_, Nat.zero_le _, Nat.zero_le _, hd⟩
  · unfold Hid refFst; rw [if_neg h0]; rfl
  · unfold Hid refSnd; rw [if_neg h0]; rfl
theorem refTPost_ok {s a b : ByteArray} {w w' : World} (h : cutAt 47 (bl s) = (bl a, bl b, true)) (hr : refB (bl a) (bl b) = true) (ha : a.size ≤ s.size) (hb : b.size ≤ s.size) (hd : Drawn w w') : RefTPost s w (.returned (.tuple #[.string a, .string b, .int .i64 0])) w' := by
  have h0 : refErr (bl s) = 0 := by rw [refErr_yes h, if_pos hr]
  refine ⟨a, b, by rw [h0], ?_, ?_, ha, hb, hd⟩
  · unfold Hid refFst; rw [if_pos h0, h]
  · unfold Hid refSnd; rw [if_pos h0, h]
theorem refB_ways (a b : List UInt8) : (nameB a 6 = false ∧ Hid (refB a b = false)) ∨ (nameB a 6 = true ∧ ((nameB b 6 = true ∧ Hid (refB a b = true)) ∨ (nameB b 6 = false ∧ ((shortB b = true ∧ Hid (refB a b = true)) ∨ (shortB b = false ∧ Hid (refB a b = false)))))) := by
  unfold refB Hid
  cases nameB a 6 <;> cases nameB b 6 <;> cases shortB b <;> simp
theorem cutHere {s : ByteArray} {j : Nat} (c : UInt8) (hj : j < s.size) (h : s[j] = c) (hn : c ∉ (bl s).take j) : cutAt c (bl s) = (bl (s.extract 0 j), bl (s.extract (j + 1) s.size), true) := by
  rcases cut_ways s c with ⟨h1, _⟩ | ⟨i, hi, _, h1⟩
  · exfalso
    have hm : c ∈ bl s := by rw [← h]; exact List.getElem_mem (l := bl s) (n := j) hj
    rcases cutAt_byte c (bl s) with ⟨h2, _⟩ | ⟨i, _, _, h3⟩
    · obtain ⟨k, hk, hk2⟩ := List.getElem_of_mem hm
      exact Lib.indexByte_none h2 k (by rw [List.getElem?_eq_getElem hk, hk2])
    · rw [h1.out] at h3; simp at h3
  · rcases cutAt_byte c (bl s) with ⟨_, h3⟩ | ⟨k, h2, hk, h3⟩
    · rw [h1.out] at h3; simp at h3
    · obtain ⟨k1, k2⟩ := Lib.indexByte_some h2
      have hkj : k = j := by
        rcases Nat.lt_trichotomy k j with hlt | heq | hgt
        · exfalso
          apply hn
          have : ((bl s).take j)[k]? = some c := by rw [List.getElem?_take, if_pos hlt]; exact k1
          exact List.mem_of_getElem? this
        · exact heq
        · exact absurd (by rw [bl_get? s j hj, h]) (k2 j hgt)
      subst hkj
      rw [h3, bl_extract, bl_extract, List.drop_zero, Nat.sub_zero, List.take_of_length_le (l := (bl s).drop (k + 1)) (by rw [List.length_drop, bl_len]; omega)]
theorem cutNone {s : ByteArray} {j : Nat} (c : UInt8) (hj : s.size ≤ j) (hn : c ∉ (bl s).take j) : cutAt c (bl s) = (bl s, [], false) := by
  rw [List.take_of_length_le (by rw [bl_len]; exact hj)] at hn
  rcases cutAt_byte c (bl s) with ⟨_, h3⟩ | ⟨k, h2, hk, h3⟩
  · exact h3
  · exact absurd (List.mem_of_getElem? (Lib.indexByte_some h2).1) hn
theorem notinMore {s : ByteArray} {j : Nat} {c : UInt8} (hj : j < s.size) (h : s[j] ≠ c) (hn : c ∉ (bl s).take j) : c ∉ (bl s).take (j + 1) := by
  rw [List.take_succ_eq_append_getElem (show j < (bl s).length from hj), List.mem_append, List.mem_singleton]
  rintro (e | e)
  · exact hn e
  · exact h e.symm
end Go.Proofs.YtlgajjlnbcbijaaDoor
