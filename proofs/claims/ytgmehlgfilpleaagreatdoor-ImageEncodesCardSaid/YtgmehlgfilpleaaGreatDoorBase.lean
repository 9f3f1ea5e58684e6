/-
  Plain words for the walks over this program: bytes of strings, the world's standing facts (Env), slices that read as a list. The library's named blocks 'Reads' and 'Blk' began as blocks of extra-words.md.
-/
import Derived.Test.YtgmehlgfilpleaaGreatDoorShelf
import Derived.WalkKit
import Derived.WalkSpells
import Derived.WalkLawsBesides
import Derived.Lib.Hide
import Derived.Lib.LaidTab
import Derived.BigQuiet
import Derived.Deep.QuietTactic
import Derived.Maps.AppendAt
import Derived.Deep.AppendLies
import Derived.Deep.Draws
import Derived.Deep.Slices
import Derived.WideShapes
namespace Go.Proofs.YtgmehlgfilpleaaGreatDoor
open Go.RowKit

/-! ### endings -/
theorem ret_bool {a b : Bool} (h : a = b) : Ending.returned (.bool a) = .returned (.bool b) := by rw [h]
theorem ret_int {k : IntKind} {a b : Int} (h : a = b) : Ending.returned (.int k a) = .returned (.int k b) := by rw [h]

/-! ### bytes of strings -/
/-- the bytes of a string -/
def bl (s : ByteArray) : List UInt8 := s.data.toList
/-- the string of bytes -/
def sb (l : List UInt8) : ByteArray := ⟨l.toArray⟩
theorem bl_sb (l : List UInt8) : bl (sb l) = l := rfl
theorem sb_bl (s : ByteArray) : sb (bl s) = s := by cases s; rfl
theorem bl_len (s : ByteArray) : (bl s).length = s.size := rfl
theorem bl_get? (s : ByteArray) (k : Nat) (h : k < s.size) : (bl s)[k]? = some s[k] := List.getElem?_eq_getElem (l := bl s) h
theorem bl_append (s t : ByteArray) : bl (s ++ t) = bl s ++ bl t := by
  unfold bl; rw [ByteArray.data_append, Array.toList_append]
theorem bl_mk (a : Array UInt8) : bl ⟨a⟩ = a.toList := rfl
theorem bl_extract (s : ByteArray) (a b : Nat) : bl (s.extract a b) = ((bl s).drop a).take (b - a) := Lib.extract_data s a b
theorem bl_nil {s : ByteArray} (h : s.size = 0) : bl s = [] := List.eq_nil_of_length_eq_zero h
theorem bl_nil_iff {s : ByteArray} : bl s = [] ↔ s.size = 0 := ⟨fun h => by rw [← bl_len, h]; rfl, bl_nil⟩
theorem bl_toList (s : ByteArray) : s.toList = bl s := ByteArray.toList_eq s
theorem bl_head (s : ByteArray) (h : 0 < s.size) : (bl s).headD 0 = s[0] := by
  rw [List.headD_eq_head?_getD, List.head?_eq_getElem?, bl_get? s 0 h]; rfl
theorem u8_eq {c : UInt8} {n : Nat} (hn : n < 256) : (c.toNat = n) ↔ c = UInt8.ofNat n := by
  constructor
  · intro h; apply UInt8.toNat_inj.1; rw [h]; simp; omega
  · rintro rfl; simp; omega
theorem u8_lt (c : UInt8) : c.toNat < 256 := c.toNat_lt
theorem all_take_succ {p : UInt8 → Bool} {l : List UInt8} {k : Nat} (h : (l.take k).all p = true) (hk : k < l.length) (hp : p l[k] = true) : (l.take (k+1)).all p = true := by
  rw [List.take_succ_eq_append_getElem hk, List.all_append, h]; simp [hp]
theorem all_false_at {p : UInt8 → Bool} {l : List UInt8} {k : Nat} (hk : k < l.length) (hp : p l[k] = false) : l.all p = false := by
  rw [List.all_eq_false]; exact ⟨l[k], List.getElem_mem _, by simp [hp]⟩
theorem all_take_all {p : UInt8 → Bool} {l : List UInt8} {k : Nat} (h : (l.take k).all p = true) (hk : l.length ≤ k) : l.all p = true := by
  rwa [List.take_of_length_le hk] at h

/-! ### the world -/
theorem below_drewN' {B : Nat} {a w : World} (h : Below B a w) (n : Nat) : Below B a (w.drewN n) := ⟨h.os, h.tape, h.output, h.size, h.block⟩
/-- Below, step after step. -/
theorem Below.then_ {a b c : World} (h : Below a.heap.size a b) (k : Below b.heap.size b c) : Below a.heap.size a c := h.trans (k.mono h.size)

/-- What each call asks of the world: the package-level variables hold what their initialisers laid. -/
structure Env (w : World) : Prop where
  most : ∃ m : Int, w.cell? ⟨2, 0, none⟩ = some (.int .i64 m)
  pow10 : Lib.TabIs Tryz.prog w "internal/strconv.uint64pow10" .u64 Lib.pow10Tab
  errR : ∃ te pe, w.cell? ⟨11, 0, none⟩ = some (.iface te pe)
  errS : ∃ te pe, w.cell? ⟨10, 0, none⟩ = some (.iface te pe)
  size : 12 ≤ w.heap.size
theorem gPow10 : Tryz.prog.globalNamed "internal/strconv.uint64pow10" = some 5 := by kernel_rfl
theorem Env.of_below {B : Nat} {w w' : World} (h : Env w) (hb : Below B w w') (hB : 12 ≤ B) : Env w' := by
  obtain ⟨⟨m, h1⟩, h2, ⟨te, pe, h3⟩, ⟨te', pe', h4⟩, h5⟩ := h
  exact ⟨⟨m, (hb.cell (p := ⟨2, 0, none⟩) (Nat.lt_of_lt_of_le (by decide) hB)).trans h1⟩, var?_below hb gPow10 (by omega) h2,
    ⟨te, pe, (hb.cell (p := ⟨11, 0, none⟩) (Nat.lt_of_lt_of_le (by decide) hB)).trans h3⟩,
    ⟨te', pe', (hb.cell (p := ⟨10, 0, none⟩) (Nat.lt_of_lt_of_le (by decide) hB)).trans h4⟩, Nat.le_trans h5 hb.size⟩
theorem Env.below {w w' : World} (h : Env w) (hb : Below w.heap.size w w') : Env w' := h.of_below hb h.size
theorem Env.drew {w : World} (h : Env w) : Env w.drew := h.below (Below.refl _ _).drew
theorem Env.drewN {w : World} (h : Env w) (n : Nat) : Env (w.drewN n) := h.below (below_drewN' (Below.refl _ _) n)
theorem Env.alloc {w : World} (h : Env w) (o : Obj) : Env (w.alloc o) := h.below ((Below.refl _ _).alloc (Nat.le_refl _) o)
theorem Env.setCell {w : World} (h : Env w) {p : Addr} (hp : 12 ≤ p.block) (v : Value) : Env (w.setCell p v) :=
  h.of_below ((Below.refl 12 _).setCell hp v) (Nat.le_refl _)

/-! ### slices that read as lists of cells -/
section
variable {w w' : World} {size n : Nat} {v : Value} {xs : List Value}
/-- the slice value v, of n elements of so many cells each, reads as the cells xs -/
def Rd (w : World) (size : Nat) (v : Value) (n : Nat) (xs : List Value) : Prop :=
  xs.length = n * size ∧ ∃ A c, v = .slice A n c ∧ n ≤ c ∧ c ≤ maxLen ∧ (0 < n → ∃ g o, A = some ⟨g, o, none⟩ ∧ g < w.heap.size ∧ ∀ j u, xs[j]? = some u → w.cell? ⟨g, o + j, none⟩ = some u)
theorem Rd.nil (w : World) (size : Nat) : Rd w size (.slice none 0 0) 0 [] := ⟨by simp, none, 0, rfl, Nat.le_refl _, by unfold maxLen; omega, fun h => absurd h (by omega)⟩
theorem Rd.len (h : Rd w size v n xs) : xs.length = n * size := h.1
theorem Rd.form (h : Rd w size v n xs) : ∃ A c, v = .slice A n c ∧ n ≤ c ∧ c ≤ maxLen := by
  obtain ⟨_, A, c, hv, hc, hm, _⟩ := h; exact ⟨A, c, hv, hc, hm⟩
theorem Rd.below (h : Rd w size v n xs) (hb : Below w.heap.size w w') : Rd w' size v n xs := by
  obtain ⟨hl, A, c, hv, hc, hm, hr⟩ := h
  refine ⟨hl, A, c, hv, hc, hm, fun hn => ?_⟩
  obtain ⟨g, o, hA, hg, hx⟩ := hr hn
  exact ⟨g, o, hA, Nat.lt_of_lt_of_le hg hb.size, fun j u hu => (hb.cell (p := ⟨g, o + j, none⟩) hg).trans (hx j u hu)⟩
theorem Rd.alloc (h : Rd w size v n xs) (o : Obj) : Rd (w.alloc o) size v n xs := h.below ((Below.refl _ _).alloc (Nat.le_refl _) o)
theorem Rd.drew (h : Rd w size v n xs) : Rd w.drew size v n xs := h.below (Below.refl _ _).drew
theorem Rd.drewN (h : Rd w size v n xs) (k : Nat) : Rd (w.drewN k) size v n xs := h.below (below_drewN' (Below.refl _ _) k)
theorem Rd.of_own {base : Nat} {e : TypeId} (h : w.ownsRow base e size v n xs) : Rd w size v n xs := by
  have hlt := h.lt
  have hcs := @World.ownsRow.cells _ _ _ _ _ _ _ h
  obtain ⟨hl, ⟨rfl, rfl⟩ | ⟨g, cap, cur, rfl, hb, hh, hn, hm, _, _⟩⟩ := h
  · exact ⟨hl, none, 0, rfl, Nat.le_refl _, by unfold maxLen; omega, fun h => absurd h (by omega)⟩
  · refine ⟨hl, _, cap, rfl, hn, hm, fun _ => ⟨g, 0, rfl, (hlt g rfl).2, fun j u hu => ?_⟩⟩
    have := hcs (g := g) rfl j u hu
    simpa [Addr.add_lit] using this
theorem Rd.two (h : Rd w 2 v n xs) {k : Nat} (hk : k < n) : ∃ g o c a b, v = .slice (some ⟨g, o, none⟩) n c ∧ n ≤ c ∧ g < w.heap.size ∧ xs[k * 2]? = some a ∧ xs[k * 2 + 1]? = some b ∧ w.cell? ⟨g, o + k * 2, none⟩ = some a ∧ w.cell? ⟨g, o + k * 2 + 1, none⟩ = some b := by
  obtain ⟨hl, A, c, hv, hc, hm, hr⟩ := h
  obtain ⟨g, o, rfl, hg, hx⟩ := hr (by omega)
  have h1 : k * 2 < xs.length := by omega
  have h2 : k * 2 + 1 < xs.length := by omega
  refine ⟨g, o, c, xs[k * 2], xs[k * 2 + 1], hv, hc, hg, List.getElem?_eq_getElem h1, List.getElem?_eq_getElem h2, hx _ _ (List.getElem?_eq_getElem h1), ?_⟩
  have := hx _ _ (List.getElem?_eq_getElem h2)
  rwa [← Nat.add_assoc] at this
theorem heap_lt {k : Nat} {o : Obj} (h : w.heap[k]? = some o) : k < w.heap.size := (Array.getElem?_eq_some_iff.1 h).1
theorem own_below {base : Nat} {w w' : World} {e : TypeId} {size n : Nat} {v : Value} {xs : List Value} (h : w.ownsRow base e size v n xs) (hb : Below w.heap.size w w') : w'.ownsRow base e size v n xs := by
  obtain ⟨hl, h2 | ⟨g, cap, cur, hv, hg, hh, r⟩⟩ := h
  · exact ⟨hl, .inl h2⟩
  · exact ⟨hl, .inr ⟨g, cap, cur, hv, hg, (hb.block g (heap_lt hh)).trans hh, r⟩⟩
end
theorem cell_one_new (w : World) (a : Value) (t : TypeId) : ∀ j u, [a][j]? = some u → (w.alloc (.cells #[a] t)).cell? ((⟨w.heap.size, 0, none⟩ : Addr).add j) = some u := by
  intro j u h
  match j, h with
  | 0, h => simp at h; subst h; simp [Addr.add_lit, go_sem]
  | j + 1, h => simp at h
/-- a world that differs in draws alone -/
def Drew (w w' : World) : Prop := ∃ m, w' = w.drewN m
theorem Drew.refl (w : World) : Drew w w := ⟨0, rfl⟩
theorem Drew.more {w w' : World} (h : Drew w w') (n : Nat) : Drew w (w'.drewN n) := by
  obtain ⟨m, rfl⟩ := h
  exact ⟨m + n, by rw [World.drewN_drewN]⟩
theorem Drew.below {w w' : World} (h : Drew w w') {b : Nat} : Below b w w' := by
  obtain ⟨m, rfl⟩ := h
  exact below_drewN' (Below.refl _ _) m
theorem list_of {α : Type} {P : Nat → α → Prop} : ∀ (n : Nat), (∀ i, i < n → ∃ y, P i y) → ∃ l : List α, l.length = n ∧ ∀ i (h : i < l.length), P i l[i]
  | 0, _ => ⟨[], rfl, fun i h => absurd h (by simp)⟩
  | n + 1, h => by
    obtain ⟨l, hl, hp⟩ := list_of n (fun i hi => h i (by omega))
    obtain ⟨y, hy⟩ := h n (by omega)
    refine ⟨l ++ [y], by simp [hl], fun i hi => ?_⟩
    rw [List.length_append, List.length_singleton] at hi
    by_cases hin : i < l.length
    · rw [List.getElem_append_left hin]; exact hp i hin
    · have e : i = n := by omega
      subst e
      rw [List.getElem_append_right (by omega)]
      simp only [hl, Nat.sub_self, List.getElem_singleton]
      exact hy
theorem cell_lt {w : World} {g o : Nat} {v : Value} (h : w.cell? ⟨g, o, none⟩ = some v) : g < w.heap.size := by
  rcases Nat.lt_or_ge g w.heap.size with h1 | h1
  · exact h1
  · exfalso
    have e : w.heap[g]? = none := Array.getElem?_eq_none h1
    simp [World.cell?, e] at h
theorem flat_len {k : Nat} : ∀ (L : List (List Value)), (∀ c ∈ L, c.length = k) → L.flatten.length = L.length * k
  | [], _ => by simp
  | c :: L, h => by
    rw [List.flatten_cons, List.length_append, h c (by simp), flat_len L (fun x hx => h x (List.mem_cons_of_mem _ hx)), List.length_cons, Nat.add_mul, Nat.one_mul, Nat.add_comm]
theorem flat_at {k : Nat} : ∀ (L : List (List Value)), (∀ c ∈ L, c.length = k) → ∀ (i j : Nat) (h : i < L.length), j < k → L.flatten[i * k + j]? = L[i][j]?
  | [], _, i, j, h, _ => absurd h (by simp)
  | c :: L, hk, 0, j, h, hj => by
    have hc := hk c (by simp)
    rw [List.flatten_cons, Nat.zero_mul, Nat.zero_add, List.getElem?_append_left (by omega)]; rfl
  | c :: L, hk, i + 1, j, h, hj => by
    have hc := hk c (by simp)
    rw [List.flatten_cons, List.getElem?_append_right (by rw [hc, Nat.add_mul]; omega), hc, Nat.add_mul, show i * k + 1 * k + j - k = i * k + j by omega]
    exact flat_at L (fun x hx => hk x (List.mem_cons_of_mem _ hx)) i j (by simpa using h) hj
/-- rows of cells in memory, as a list -/
theorem rdK_new {w : World} {a : Addr} {cap k : Nat} (L : List (List Value)) (hk : ∀ c ∈ L, c.length = k) (h0 : 0 < k) (hc : L.length ≤ cap) (hm : cap ≤ maxLen)
    (h : ∀ i (hi : i < L.length) j, j < k → w.cell? ((a.add (i * k)).add j) = L[i][j]?) : Rd w k (.slice (some a) L.length cap) L.length L.flatten := by
  refine ⟨flat_len L hk, some a, cap, rfl, hc, hm, fun hn => ?_⟩
  obtain ⟨g, o, sp⟩ := a
  have hl0 : L[0].length = k := hk _ (List.getElem_mem hn)
  have h00 := h 0 hn 0 h0
  rw [List.getElem?_eq_getElem (by omega)] at h00
  have hsp : sp = none := by have := World.cell?_spot h00; simpa [Addr.add] using this
  subst hsp
  have h' : ∀ i (hi : i < L.length) j, j < k → w.cell? ⟨g, o + (i * k + j), none⟩ = L[i][j]? := by
    intro i hi j hj
    have := h i hi j hj
    rw [Go.Deep.add_add, Go.WideShapes.add_plain] at this
    exact this
  have h01 := h' 0 hn 0 h0
  rw [List.getElem?_eq_getElem (by omega)] at h01
  refine ⟨g, o, rfl, cell_lt h01, fun j u hu => ?_⟩
  have hj : j < L.length * k := by
    rw [← flat_len L hk]
    rcases Nat.lt_or_ge j L.flatten.length with h1 | h1
    · exact h1
    · rw [List.getElem?_eq_none h1] at hu; cases hu
  have hi : j / k < L.length := Nat.div_lt_of_lt_mul (by rw [Nat.mul_comm]; exact hj)
  have hjk : j % k < k := Nat.mod_lt _ h0
  have e : j / k * k + j % k = j := by rw [Nat.mul_comm]; exact Nat.div_add_mod j k
  have h1 := h' (j / k) hi (j % k) hjk
  have h2 := flat_at L hk (j / k) (j % k) hi hjk
  rw [e] at h1 h2
  rw [h1, ← h2, hu]
end Go.Proofs.YtgmehlgfilpleaaGreatDoor
