/-
  Plain words for the walks over this program: bytes of strings, the world's standing facts (Env), slices that read as a list. The library's named blocks 'Reads' and 'Blk' began as blocks of extra-words.md.
-/
import Derived.Test.YtempiooclhmeoaaGreatDoorShelf
import Derived.WalkKit
import Derived.WalkSpells
import Derived.WalkLawsBesides
import Derived.Lib.Hide
import Derived.Lib.LaidTab
import Derived.BigQuiet
import Derived.Deep.QuietTactic
import Derived.Maps.AppendAt
import Derived.Deep.AppendLies
import Derived.Deep.Draws
namespace Go.Proofs.YtempiooclhmeoaaGreatDoor
open Go.RowKit

/-! ### endings -/
theorem ret_bool {a b : Bool} (h : a = b) : Ending.returned (.bool a) = .returned (.bool b) := by rw [h]
theorem ret_int {k : IntKind} {a b : Int} (h : a = b) : Ending.returned (.int k a) = .returned (.int k b) := by rw [h]

/-! ### bytes of strings -/
/-- the bytes of a string -/
def bl (s : ByteArray) : List UInt8 := s.data.toList
/-- the string of bytes -/
def sb (l : List UInt8) : ByteArray := ⟨l.toArray⟩
theorem bl_sb (l : List UInt8) : bl (sb l) = l := rfl
theorem sb_bl (s : ByteArray) : sb (bl s) = s := by cases s; rfl
theorem bl_inj {s t : ByteArray} (h : bl s = bl t) : s = t := by rw [← sb_bl s, ← sb_bl t, h]
theorem bl_len (s : ByteArray) : (bl s).length = s.size := rfl
theorem sb_size (l : List UInt8) : (sb l).size = l.length := rfl
theorem bl_get (s : ByteArray) (k : Nat) (h : k < s.size) : (bl s)[k]'h = s[k] := rfl
theorem bl_get? (s : ByteArray) (k : Nat) (h : k < s.size) : (bl s)[k]? = some s[k] := List.getElem?_eq_getElem (l := bl s) h
theorem bl_append (s t : ByteArray) : bl (s ++ t) = bl s ++ bl t := by
  unfold bl; rw [ByteArray.data_append, Array.toList_append]
theorem bl_mk (a : Array UInt8) : bl ⟨a⟩ = a.toList := rfl
theorem bl_extract (s : ByteArray) (a b : Nat) : bl (s.extract a b) = ((bl s).drop a).take (b - a) := Lib.extract_data s a b
theorem bl_nil {s : ByteArray} (h : s.size = 0) : bl s = [] := List.eq_nil_of_length_eq_zero h
theorem bl_nil_iff {s : ByteArray} : bl s = [] ↔ s.size = 0 := ⟨fun h => by rw [← bl_len, h]; rfl, bl_nil⟩
theorem bl_toList (s : ByteArray) : s.toList = bl s := ByteArray.toList_eq s
theorem bl_head (s : ByteArray) (h : 0 < s.size) : (bl s).headD 0 = s[0] := by
  rw [List.headD_eq_head?_getD, List.head?_eq_getElem?, bl_get? s 0 h]; rfl
theorem u8_eq {c : UInt8} {n : Nat} (hn : n < 256) : (c.toNat = n) ↔ c = UInt8.ofNat n := by
  constructor
  · intro h; apply UInt8.toNat_inj.1; rw [h]; simp; omega
  · rintro rfl; simp; omega
theorem u8_lt (c : UInt8) : c.toNat < 256 := c.toNat_lt
theorem all_take_succ {p : UInt8 → Bool} {l : List UInt8} {k : Nat} (h : (l.take k).all p = true) (hk : k < l.length) (hp : p l[k] = true) : (l.take (k+1)).all p = true := by
  rw [List.take_succ_eq_append_getElem hk, List.all_append, h]; simp [hp]
theorem all_false_at {p : UInt8 → Bool} {l : List UInt8} {k : Nat} (hk : k < l.length) (hp : p l[k] = false) : l.all p = false := by
  rw [List.all_eq_false]; exact ⟨l[k], List.getElem_mem _, by simp [hp]⟩
theorem all_take_all {p : UInt8 → Bool} {l : List UInt8} {k : Nat} (h : (l.take k).all p = true) (hk : l.length ≤ k) : l.all p = true := by
  rwa [List.take_of_length_le hk] at h

/-! ### the world -/
theorem below_drewN' {B : Nat} {a w : World} (h : Below B a w) (n : Nat) : Below B a (w.drewN n) := ⟨h.os, h.tape, h.output, h.size, h.block⟩
theorem below_grow (w : World) (k : Nat) (os : Array Obj) : Below w.heap.size w (Go.Sort.grow (w.drewN k) os) :=
  ⟨rfl, rfl, rfl, by simp, fun i hi => Go.Sort.heap_grow_old (w.drewN k) os (by simpa using hi)⟩
theorem bcell {W w1 : World} (hb : Below W.heap.size W w1) : (∀ b o, b < W.heap.size → w1.cell? ⟨b, o, none⟩ = W.cell? ⟨b, o, none⟩) ∧ (∀ b o, b < W.heap.size → w1.frozen? ⟨b, o, none⟩ = W.frozen? ⟨b, o, none⟩) :=
  ⟨fun b o h => hb.cell (p := ⟨b, o, none⟩) h, fun b o h => hb.frozen (p := ⟨b, o, none⟩) h⟩
/-- Below, step after step. -/
theorem Below.then_ {a b c : World} (h : Below a.heap.size a b) (k : Below b.heap.size b c) : Below a.heap.size a c := h.trans (k.mono h.size)

/-- What each call asks of the world: the package-level variables hold what their initialisers laid. -/
structure Env (w : World) : Prop where
  most : ∃ m : Int, w.cell? ⟨0, 0, none⟩ = some (.int .i64 m)
  pow10 : Lib.TabIs Tryz.prog w "internal/strconv.uint64pow10" .u64 Lib.pow10Tab
  errR : ∃ te pe, w.cell? ⟨3, 0, none⟩ = some (.iface te pe)
  errS : ∃ te pe, w.cell? ⟨2, 0, none⟩ = some (.iface te pe)
  size : 6 ≤ w.heap.size
theorem gPow10 : Tryz.prog.globalNamed "internal/strconv.uint64pow10" = some 1 := by kernel_rfl
theorem Env.of_below {B : Nat} {w w' : World} (h : Env w) (hb : Below B w w') (hB : 6 ≤ B) : Env w' := by
  obtain ⟨⟨m, h1⟩, h2, ⟨te, pe, h3⟩, ⟨te', pe', h4⟩, h5⟩ := h
  exact ⟨⟨m, (hb.cell (p := ⟨0, 0, none⟩) (Nat.lt_of_lt_of_le (by decide) hB)).trans h1⟩, var?_below hb gPow10 (by omega) h2,
    ⟨te, pe, (hb.cell (p := ⟨3, 0, none⟩) (Nat.lt_of_lt_of_le (by decide) hB)).trans h3⟩,
    ⟨te', pe', (hb.cell (p := ⟨2, 0, none⟩) (Nat.lt_of_lt_of_le (by decide) hB)).trans h4⟩, Nat.le_trans h5 hb.size⟩
theorem Env.below {w w' : World} (h : Env w) (hb : Below w.heap.size w w') : Env w' := h.of_below hb h.size
theorem Env.drew {w : World} (h : Env w) : Env w.drew := h.below (Below.refl _ _).drew
theorem Env.drewN {w : World} (h : Env w) (n : Nat) : Env (w.drewN n) := h.below (below_drewN' (Below.refl _ _) n)
theorem Env.alloc {w : World} (h : Env w) (o : Obj) : Env (w.alloc o) := h.below ((Below.refl _ _).alloc (Nat.le_refl _) o)
theorem Env.setCell {w : World} (h : Env w) {p : Addr} (hp : 6 ≤ p.block) (v : Value) : Env (w.setCell p v) :=
  h.of_below ((Below.refl 6 _).setCell hp v) (Nat.le_refl _)

end Go.Proofs.YtempiooclhmeoaaGreatDoor
