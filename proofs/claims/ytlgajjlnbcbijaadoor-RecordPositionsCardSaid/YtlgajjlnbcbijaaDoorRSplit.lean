/-
  Contract: the reference's Split.
-/
import Derived.Test.YtlgajjlnbcbijaaDoorSplit
namespace Go.Proofs.YtlgajjlnbcbijaaDoor
open Go.RowKit
set_option linter.unusedVariables false
set_option linter.unusedSimpArgs false

theorem cut35 (s : ByteArray) {a : List UInt8} (ha : a = (cutAt 35 (bl s)).1) : a.length ≤ s.size ∧ (∀ (k : Nat) (h : k < s.size), k < a.length → s[k].toNat ≠ 35 ∧ a.drop k = s[k] :: a.drop (k + 1)) ∧ (a.length = s.size ∨ ∃ h : a.length < s.size, s[a.length].toNat = 35) := by
  subst ha
  have hpre : ∃ r, bl s = (cutAt 35 (bl s)).1 ++ r ∧ (35 : UInt8) ∉ (cutAt 35 (bl s)).1 ∧ (r = [] ∨ r.head? = some 35) := by
    rcases cutAt_spec 35 (bl s) with ⟨_, h2, h3⟩ | ⟨_, h2, h3, _⟩
    · exact ⟨_, h2, h3, .inr rfl⟩
    · exact ⟨[], by rw [h3, List.append_nil], by rw [h3]; exact h2, .inl rfl⟩
  obtain ⟨r, h1, h2, h3⟩ := hpre
  generalize (cutAt 35 (bl s)).1 = a at h1 h2
  have hl : s.size = a.length + r.length := by rw [← bl_len, h1, List.length_append]
  refine ⟨by omega, fun k h hk => ?_, ?_⟩
  · have e : s[k] = a[k] := by
      have := bl_get? s k h
      rw [h1, List.getElem?_append_left hk, List.getElem?_eq_getElem hk, Option.some.injEq] at this
      exact this.symm
    refine ⟨fun h35 => h2 ?_, by rw [e]; exact List.drop_eq_getElem_cons hk⟩
    have : a[k] = 35 := by rw [← e]; exact (u8_eq (n := 35) (by omega)).1 h35
    rw [← this]; exact List.getElem_mem hk
  · rcases h3 with rfl | h3
    · left; simpa using hl.symm
    · right
      match r, h3 with
      | c :: r, h3 =>
        have hc : c = 35 := by simpa using h3
        have h : a.length < s.size := by simp only [List.length_cons] at hl; omega
        refine ⟨h, ?_⟩
        have := bl_get? s a.length h
        rw [h1, List.getElem?_append_right (Nat.le_refl _), Nat.sub_self, hc] at this
        simp only [List.getElem?_cons_zero, Option.some.injEq] at this
        rw [← this]; rfl

/-- the field that has begun, by the reference's number -/
def Begun (s : ByteArray) (k : Nat) (z : Int) (cur : List UInt8) (st : Nat) : Prop := (z = -1 ∧ cur = []) ∨ (z = (st : Int) ∧ st < k ∧ cur = bl (s.extract st k) ∧ cur ≠ [])
theorem extract_snoc {s : ByteArray} {st k : Nat} (h1 : st ≤ k) (h : k < s.size) : bl (s.extract st k) ++ [s[k]] = bl (s.extract st (k + 1)) := by
  rw [bl_extract, bl_extract, show k + 1 - st = (k - st) + 1 by omega]
  have hl : k - st < ((bl s).drop st).length := by rw [List.length_drop, bl_len]; omega
  rw [List.take_succ_eq_append_getElem hl]
  have h3 : ((bl s).drop st)[k - st]? = some s[k] := by rw [List.getElem?_drop, show st + (k - st) = k by omega, bl_get? s k h]
  rw [List.getElem?_eq_getElem hl, Option.some.injEq] at h3
  rw [h3]
theorem rsplit_char {s : ByteArray} {a : List UInt8} {k st : Nat} {cur : List UInt8} {z : Int} {all done : List Fld} (h : k < s.size) (hd : a.drop k = s[k] :: a.drop (k + 1)) (h32 : ¬ (s[k].toNat : Int) = 32)
    (hb : Begun s k z cur st) (hr : all = done ++ fieldsGo cur st k (a.drop k)) :
    ∃ st', Begun s (k + 1) (if z < 0 then (k : Int) else z) (cur ++ [s[k]]) st' ∧ all = done ++ fieldsGo (cur ++ [s[k]]) st' (k + 1) (a.drop (k + 1)) := by
  have hne : s[k] ≠ 32 := fun e => h32 (by rw [e]; rfl)
  rw [hd, fieldsGo, if_neg hne] at hr
  rcases hb with ⟨rfl, rfl⟩ | ⟨rfl, hlt, hc, hn⟩
  · rw [if_pos rfl] at hr
    refine ⟨k, .inr ⟨by rw [if_pos (by decide)], by omega, ?_, by simp⟩, hr⟩
    rw [← extract_snoc (Nat.le_refl k) h, bl_extract, Nat.sub_self]; rfl
  · rw [if_neg hn] at hr
    exact ⟨st, .inr ⟨by rw [if_neg (by omega)], by omega, by rw [hc]; exact extract_snoc (by omega) h, by simp⟩, hr⟩
/-- what is left behind a field's end -/
theorem rsplit_blank {s : ByteArray} {a : List UInt8} {k st : Nat} {cur : List UInt8} {all done : List Fld} (h : k < s.size) (hd : a.drop k = s[k] :: a.drop (k + 1)) (h32 : (s[k].toNat : Int) = 32)
    (hr : all = done ++ fieldsGo cur st k (a.drop k)) : (cur = [] → all = done ++ fieldsGo [] 0 (k + 1) (a.drop (k + 1))) ∧ (cur ≠ [] → all = (done ++ [(cur, st + 1)]) ++ fieldsGo [] 0 (k + 1) (a.drop (k + 1))) := by
  rw [hd, u8_32 h32, fieldsGo, if_pos rfl] at hr
  constructor
  · intro e; rw [if_pos e] at hr; exact hr
  · intro e; rw [if_neg e] at hr; rw [hr, List.append_assoc]; rfl
theorem rsplit_last {a : List UInt8} {k st : Nat} {cur : List UInt8} {all done : List Fld} (hk : a.length ≤ k) (hr : all = done ++ fieldsGo cur st k (a.drop k)) : (cur = [] → all = done) ∧ (cur ≠ [] → all = done ++ [(cur, st + 1)]) := by
  rw [List.drop_eq_nil_of_le hk, fieldsGo] at hr
  constructor
  · intro e; rw [if_pos e, List.append_nil] at hr; exact hr
  · intro e; rw [if_neg e] at hr; exact hr

end Go.Proofs.YtlgajjlnbcbijaaDoor
