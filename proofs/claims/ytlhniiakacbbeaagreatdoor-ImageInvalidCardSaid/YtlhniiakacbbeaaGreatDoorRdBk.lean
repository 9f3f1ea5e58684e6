/-
  Plain laws: the bytes of a database's image are read back: its header and its sections.
-/
import Derived.Test.YtlhniiakacbbeaaGreatDoorMG23
namespace Go.Proofs.YtlhniiakacbbeaaGreatDoor
open Go.RowKit
set_option linter.unusedVariables false
set_option linter.unusedSimpArgs false
def AtB (bs : List UInt8) (a : Nat) (xs : List UInt8) : Prop := (bs.drop a).take xs.length = xs ∧ a + xs.length ≤ bs.length
theorem AtB.left {bs : List UInt8} {a : Nat} {x y : List UInt8} (h : AtB bs a (x ++ y)) : AtB bs a x := by
 obtain ⟨h1, h2⟩ := h
 rw [List.length_append] at h1 h2
 refine ⟨?_, by omega⟩
 have := congrArg (List.take x.length) h1
 rw [List.take_take, List.take_left, Nat.min_eq_left (by omega)] at this
 exact this
theorem AtB.right {bs : List UInt8} {a : Nat} {x y : List UInt8} (h : AtB bs a (x ++ y)) : AtB bs (a + x.length) y := by
 obtain ⟨h1, h2⟩ := h
 rw [List.length_append] at h1 h2
 refine ⟨?_, by omega⟩
 have := congrArg (List.drop x.length) h1
 rw [List.drop_left, List.drop_take, List.drop_drop, Nat.add_sub_cancel_left] at this
 exact this
theorem AtB.tail {bs : List UInt8} {a : Nat} {b : UInt8} {y : List UInt8} (h : AtB bs a (b :: y)) : AtB bs (a + 1) y := AtB.right (x := [b]) h
theorem AtB.head {bs : List UInt8} {a : Nat} {b : UInt8} {y : List UInt8} (h : AtB bs a (b :: y)) : AtB bs a [b] := AtB.left (y := y) h
section
variable {bs : List UInt8} {st a : Nat}
theorem tkS_at {n : Nat} (h : a + n ≤ st) : tkS st n (a, false) = (a + n, false) := tkS_yes (by omega)
theorem tkV_at {xs : List UInt8} {n : Nat} (h : AtB bs a xs) (hn : xs.length = n) (hs : a + n ≤ st) : tkV bs st n (a, false) = xs := by
 subst hn; rw [tkV_yes (by omega)]; exact h.1
theorem byV_at {b : UInt8} (h : AtB bs a [b]) (hs : a + 1 ≤ st) : byV bs st (a, false) = b := by
 unfold byV; rw [tkV_at (n := 1) h rfl hs]; rfl
theorem u8of_len {n : Nat} (h : n ≤ 255) : (u8of (n : Int)).toNat = n := by have := u8of_nat (n : Int); omega
theorem txS_at {s : List UInt8} (h : AtB bs a (u8of (s.length : Int) :: s)) (hl : s.length ≤ 255) (hs : a + 1 + s.length ≤ st) : txS bs st (a, false) = (a + 1 + s.length, false) := by
 unfold txS
 rw [byV_at h.head (by omega), u8of_len hl, tkS_at (n := 1) (by omega), tkS_at (by omega)]
theorem txV_at {s : List UInt8} (h : AtB bs a (u8of (s.length : Int) :: s)) (hl : s.length ≤ 255) (hs : a + 1 + s.length ≤ st) : txV bs st (a, false) = s := by
 unfold txV
 rw [byV_at h.head (by omega), u8of_len hl, tkS_at (n := 1) (by omega)]
 exact tkV_at h.tail rfl (by omega)
theorem txt1 {s : List UInt8} : txtL [s] = u8of (s.length : Int) :: s := by simp [txtL]
theorem txt2 {s t : List UInt8} : txtL [s, t] = (u8of (s.length : Int) :: s) ++ (u8of (t.length : Int) :: t) := by simp [txtL]
theorem n8S_at (h : a + 8 ≤ st) : n8S st (a, false) = (a + 8, false) := tkS_at h
theorem n8x_at : ∀ (k : Nat) {a : Nat}, a + k * 8 ≤ st → n8x st k (a, false) = (a + k * 8, false)
 | 0, a, _ => by rw [Nat.zero_mul, Nat.add_zero]; rfl
 | k + 1, a, h => by
  have h2 : a + 8 + k * 8 ≤ st := by rw [Nat.succ_mul] at h; omega
  show n8x st k (n8S st (a, false)) = _
  rw [n8S_at (by omega), n8x_at k h2, Nat.succ_mul]
  congr 1; omega
theorem itS_at' {α : Type} (f : α → List UInt8) (one : RS → RS) (l : List α) (h1 : ∀ x ∈ l, ∀ (a : Nat), AtB bs a (f x) → a + (f x).length ≤ st → one (a, false) = (a + (f x).length, false)) :
  ∀ (a : Nat), AtB bs a (l.flatMap f) → a + (l.flatMap f).length ≤ st → itS one l.length (a, false) = (a + (l.flatMap f).length, false) := by
 induction l with
 | nil => intro a _ _; rfl
 | cons x l ih =>
  intro a h hs
  rw [List.flatMap_cons] at h hs ⊢
  rw [List.length_append] at hs ⊢
  rw [List.length_cons, itS_more, h1 x (List.mem_cons_self ..) a h.left (by omega), ih (fun y hy => h1 y (List.mem_cons_of_mem _ hy)) _ h.right (by omega), Nat.add_assoc]
theorem lsN_at {n : Nat} {y : List UInt8} (h : AtB bs a (lowB (n : Int) 2 ++ y)) (hn : n < 65536) (hs : a + 2 ≤ st) : lsN bs st (a, false) = n := by
 unfold lsN
 rw [tkV_at h.left (lowB_len _ _) hs, loN_lowB]
 exact Nat.mod_eq_of_lt hn
theorem lsS_at {α : Type} (f : α → List UInt8) (one : RS → RS) (l : List α) (h1 : ∀ x ∈ l, ∀ (a : Nat), AtB bs a (f x) → a + (f x).length ≤ st → one (a, false) = (a + (f x).length, false))
  (h : AtB bs a (lowB (l.length : Int) 2 ++ l.flatMap f)) (hn : l.length < 65536) (hs : a + 2 + (l.flatMap f).length ≤ st) : lsS bs st one (a, false) = (a + 2 + (l.flatMap f).length, false) := by
 unfold lsS
 rw [lsN_at h hn (by omega), tkS_at (n := 2) (by omega)]
 have h2 := h.right
 rw [lowB_len] at h2
 exact itS_at' f one l h1 (a + 2) h2 hs
theorem fiS_at {f : Fx} (hb : FxB f) (h : AtB bs a (fxB f)) (hs : a + (fxB f).length ≤ st) : fiS bs st (a, false) = (a + (fxB f).length, false) := by
 have h1 := hb.id; have h2 := hb.rg
 have hl : (fxB f).length = f.id.length + f.rg.length + 35 := by
  unfold fxB; rw [List.length_append, List.length_append, txtLb_two, numB_len]; (simp only [List.length_cons, List.length_nil]) <;> omega
 rw [hl] at hs ⊢
 unfold fxB at h
 rw [txt2] at h
 have t1 := txS_at (st := st) h.left.left (by omega) (by omega)
 have t2 := txS_at (st := st) h.left.right (by omega) (by rw [List.length_cons]; omega)
 rw [List.length_cons, show a + (f.id.length + 1) = a + 1 + f.id.length by omega] at t2
 unfold fiS
 rw [t1, t2, tkS_at (n := 1) (by omega), n8S_at (by omega), n8S_at (by omega), n8S_at (by omega), n8S_at (by omega)]
 (congr 1) <;> omega
theorem ptS_at {p : Pt} (hb : p.ref.length ≤ 255) (h : AtB bs a (ptB p)) (hs : a + (ptB p).length ≤ st) : ptS bs st (a, false) = (a + (ptB p).length, false) := by
 have hl : (ptB p).length = p.ref.length + 18 := by
  unfold ptB; rw [List.length_append, List.length_append, txtLb_one, numB_len]; (simp only [List.length_cons, List.length_nil]) <;> omega
 rw [hl] at hs ⊢
 unfold ptB at h
 rw [txt1] at h
 unfold ptS
 rw [txS_at h.left (by omega) (by omega), n8S_at (by omega), n8S_at (by omega), tkS_at (n := 1) (by omega)]
 (congr 1) <;> omega
theorem awS_at {w : AwD} (hb : AwBd w) (h : AtB bs a (awB w)) (hs : a + (awB w).length ≤ st) : awS bs st (a, false) = (a + (awB w).length, false) := by
 have h1 := hb.nm; have h2 := hb.n
 have hl : (awB w).length = w.nm.length + 3 + (w.ps.flatMap ptB).length := by
  unfold awB; rw [List.length_append, List.length_append, txtLb_one, lowB_len]; omega
 rw [hl] at hs ⊢
 unfold awB at h
 rw [txt1] at h
 unfold awS
 have h3 := h.right
 rw [List.length_cons, show a + (w.nm.length + 1) = a + 1 + w.nm.length by omega] at h3
 rw [txS_at h.left (by omega) (by omega), lsS_at ptB (ptS bs st) w.ps (fun x hx a ha hs => ptS_at (hb.ps x hx).ref ha hs) h3 (by omega) (by omega)]
 (congr 1) <;> omega
theorem leS_at {g : Lg} (hb : LgB g) (h : AtB bs a (lgB g)) (hs : a + (lgB g).length ≤ st) : leS bs st (a, false) = (a + (lgB g).length, false) := by
 have h1 := hb.fi; have h2 := hb.ce
 have hl : (lgB g).length = g.fi.length + g.ce.length + 69 := by
  unfold lgB; rw [List.length_append, List.length_append, List.length_append, txtLb_two, numB_len]; (simp only [List.length_cons, List.length_nil]) <;> omega
 rw [hl] at hs ⊢
 unfold lgB at h
 rw [txt2] at h
 have k1 := h.right
 rw [show [u8b g.ty].length = 1 from rfl] at k1
 have k2 := k1.left.left
 have k3 := k1.left.right
 have k4 := k1.right
 rw [List.length_cons, show a + 1 + (g.fi.length + 1) = a + 1 + 1 + g.fi.length by omega] at k3
 rw [List.length_append, List.length_cons, List.length_cons, show a + 1 + (g.fi.length + 1 + (g.ce.length + 1)) = a + 1 + 1 + g.fi.length + 1 + g.ce.length by omega] at k4
 have k5 := k4.left.tail
 have t1 := txS_at (st := st) k2 (by omega) (by omega)
 have t2 := txS_at (st := st) k3 (by omega) (by omega)
 have hov : ovS bs st (a + 1 + 1 + g.fi.length + 1 + g.ce.length + 1, false) = (a + 1 + 1 + g.fi.length + 1 + g.ce.length + 1 + 1, false) := by
  unfold ovS
  rw [byV_at k5 (by omega), if_neg (by cases g.ov <;> decide), tkS_at (n := 1) (by omega)]
 unfold leS
 rw [tkS_at (n := 1) (by omega), t1, t2, tkS_at (n := 1) (by omega), hov, n8x_at 8 (by omega)]
 (congr 1) <;> omega
theorem imPaS_at {x : Pa} (hb : PaB x) (h : AtB bs a (paB x)) (hs : a + (paB x).length ≤ st) : imPaS bs st (a, false) = (a + (paB x).length, false) := by
 have h1 := hb.nm; have h2 := hb.n
 have hl : (paB x).length = x.nm.length + 4 + (x.lg.flatMap lgB).length := by
  unfold paB; rw [List.length_append, List.length_append, List.length_append, txtLb_one, lowB_len]; (simp only [List.length_cons, List.length_nil]) <;> omega
 rw [hl] at hs ⊢
 unfold paB at h
 rw [txt1] at h
 have k1 := h.right
 rw [show [u8b x.kd].length = 1 from rfl] at k1
 have k2 := k1.right
 rw [List.length_cons, show a + 1 + (x.nm.length + 1) = a + 1 + 1 + x.nm.length by omega] at k2
 unfold imPaS
 rw [tkS_at (n := 1) (by omega), txS_at k1.left (by omega) (by omega), lsS_at lgB (leS bs st) x.lg (fun g hg a ha hs => leS_at (hb.lg g hg) ha hs) k2 (by omega) (by omega)]
 (congr 1) <;> omega
theorem prS_at {p : Prc} (hb : PrB p) (h : AtB bs a (prB p)) (hs : a + (prB p).length ≤ st) : prS bs st (a, false) = (a + (prB p).length, false) := by
 have h1 := hb.nm; have h2 := hb.n; have h0 := hb.ap
 have hl : (prB p).length = p.ap.length + p.nm.length + 5 + (p.pa.flatMap paB).length := by
  unfold prB; rw [List.length_append, List.length_append, List.length_append, txtLb_two, lowB_len]; (simp only [List.length_cons, List.length_nil]) <;> omega
 rw [hl] at hs ⊢
 unfold prB at h
 rw [txt2] at h
 have k3 := h.left.right
 have k4 := h.right
 rw [List.length_cons, show a + (p.ap.length + 1) = a + 1 + p.ap.length by omega] at k3
 rw [List.length_append, List.length_cons, List.length_cons, show a + (p.ap.length + 1 + (p.nm.length + 1)) = a + 1 + p.ap.length + 1 + p.nm.length by omega] at k4
 have k5 := k4.right
 rw [show [u8b p.kd].length = 1 from rfl] at k5
 unfold prS
 rw [txS_at h.left.left (by omega) (by omega), txS_at k3 (by omega) (by omega), tkS_at (n := 1) (by omega), lsS_at paB (imPaS bs st) p.pa (fun x hx a ha hs => imPaS_at (hb.pa x hx) ha hs) k5 (by omega) (by omega)]
 (congr 1) <;> omega
theorem hdS_at {g : ImHd} (hn : g.nm.length ≤ 255) (h : AtB bs a (hdB g)) (hs : a + (hdB g).length ≤ st) : hdS bs st (a, false) = (a + (hdB g).length, false) := by
 have hl : (hdB g).length = g.nm.length + 41 := by
  unfold hdB; rw [List.length_append, txtLb_one, numB_len]; (simp only [List.length_cons, List.length_nil]) <;> omega
 rw [hl] at hs ⊢
 unfold hdB at h
 rw [txt1] at h
 unfold hdS
 rw [txS_at h.left (by omega) (by omega), n8x_at 5 (by omega)]
 (congr 1) <;> omega
theorem shN_div (n : Int) : ∀ (k : Nat), shN k n = n / (256 ^ k : Int)
 | 0 => by simp [shN]
 | k + 1 => by
  have hp : (0 : Int) ≤ 256 ^ k := Int.le_of_lt (Int.pow_pos (by omega))
  show shN k n / 256 = _
  rw [shN_div n k, Int.pow_succ, Int.ediv_ediv_of_nonneg hp]
theorem shN_mod (n : Int) : ∀ (k : Nat), ((loN (lowB n k) : Nat) : Int) = n % (256 ^ k : Int)
 | 0 => by simp [lowB, loN, Int.emod_one]
 | k + 1 => by
  rw [lowB_snoc, loN_snoc, lowB_len]
  have ih := shN_mod n k
  have h1 := u8of_nat (shN k n)
  rw [Int.natCast_add, Int.natCast_mul, ih, h1, shN_div]
  rw [show (((256 : Nat) ^ k : Nat) : Int) = (256 : Int) ^ k by rw [Int.natCast_pow]; rfl]
  have hp : (0 : Int) ≤ 256 ^ k := Int.le_of_lt (Int.pow_pos (by omega))
  rw [Int.pow_succ]
  generalize (256 : Int) ^ k = P at hp ⊢
  rw [Int.emod_def n (P * 256), Int.emod_def n P, Int.emod_def (n / P) 256, ← Int.ediv_ediv_of_nonneg hp]
  generalize n / P = q
  generalize q / 256 = r
  rw [Int.sub_mul, Int.mul_comm q P, Int.mul_assoc P 256 r, Int.mul_comm (256 * r) P]
  omega
theorem wrap_mod {n : Int} (h : -9223372036854775808 ≤ n ∧ n ≤ 9223372036854775807) : IntKind.i64.wrap (n % 18446744073709551616) = n := by
 unfold IntKind.wrap
 simp [IntKind.bits, IntKind.signed]
 omega
theorem n8V_at {n : Int} (h : AtB bs a (lowB n 8)) (hs : a + 8 ≤ st) (hn : -9223372036854775808 ≤ n ∧ n ≤ 9223372036854775807) : n8V bs st (a, false) = n := by
 unfold n8V
 rw [tkV_at h (lowB_len _ _) hs, shN_mod]
 exact wrap_mod hn
end
theorem secB_rd {bs : List UInt8} {k tag a : Nat} {c : List UInt8} (h : AtB bs a (secB (UInt8.ofNat tag) c)) (ht : tag < 256) (hc : c.length < 4294967296) (hs : secS bs (a + 5 + c.length) tag (a + 5, false) = (a + 5 + c.length, false)) :
  rdG bs (k + 1) tag a = (rdG bs k (tag + 1) (a + 5 + c.length)).map ((tag, a + 5, c.length, secN bs (a + 5 + c.length) tag (a + 5, false)) :: ·) := by
 have hl := h.2
 rw [secB_len] at hl
 unfold secB at h
 have h1 := h.left.left
 have h2 := h.left.right
 rw [show [UInt8.ofNat tag].length = 1 from rfl] at h2
 refine rdG_more (n := c.length) ?_ ?_ ?_ (by omega) (by rw [hs]; simp) (by rw [hs])
 ·rw [tkS_at (n := 1) (by omega), tkS_at (n := 4) (by omega)]; simp
 ·rw [byV_at h1 (by omega), UInt8.toNat_ofNat']; exact Nat.mod_eq_of_lt (by omega)
 ·rw [tkV_at h2 (lowB_len _ _) (by omega), loN_lowB]; exact Nat.mod_eq_of_lt (by omega)
theorem secB_con {bs : List UInt8} {a : Nat} {t : UInt8} {c : List UInt8} (h : AtB bs a (secB t c)) : AtB bs (a + 5) c := by
 unfold secB at h
 have h1 := h.right
 rw [List.length_append, lowB_len] at h1
 exact h1
def dbSecs (d : DbD) : List Sec :=
 [(1, 9, (hdB d.hd).length, 1), (2, 9 + (hdB d.hd).length + 5, 2 + (d.fx.flatMap fxB).length, d.fx.length), (3, 9 + (hdB d.hd).length + 5 + (2 + (d.fx.flatMap fxB).length) + 5, 2 + (d.aw.flatMap awB).length, d.aw.length),
 (4, 9 + (hdB d.hd).length + 5 + (2 + (d.fx.flatMap fxB).length) + 5 + (2 + (d.aw.flatMap awB).length) + 5, 2 + (d.pr.flatMap prB).length, d.pr.length)]
theorem dbB_lenE (d : DbD) : (dbB d).length = 4 + 20 + (hdB d.hd).length + (2 + (d.fx.flatMap fxB).length) + (2 + (d.aw.flatMap awB).length) + (2 + (d.pr.flatMap prB).length) := by
 unfold dbB conB
 rw [List.length_append, secsB_four, List.length_append, List.length_append, List.length_append, lowB_len, lowB_len, lowB_len, show magicL.length = 4 from rfl]
 omega
set_option maxHeartbeats 1000000 in
theorem rdF_db {d : DbD} (h : DbB d) (hN : (dbB d).length ≤ 900000) : rdF (dbB d) = some (d.hd, dbSecs d) := by
 have hL := dbB_lenE d
 have A0 : AtB (dbB d) 0 (dbB d) := ⟨by rw [List.drop_zero, List.take_length], by omega⟩
 have e : dbB d = magicL ++ (secB (UInt8.ofNat 1) (hdB d.hd) ++ (secB (UInt8.ofNat 2) (lowB (d.fx.length : Int) 2 ++ d.fx.flatMap fxB) ++ (secB (UInt8.ofNat 3) (lowB (d.aw.length : Int) 2 ++ d.aw.flatMap awB) ++ (secB (UInt8.ofNat 4) (lowB (d.pr.length : Int) 2 ++ d.pr.flatMap prB) ++ [])))) := rfl
 have hm : (dbB d).take 4 = magicL := by rw [e]; exact List.take_left' rfl
 obtain ⟨bs, hbs⟩ : ∃ bs, dbB d = bs := ⟨_, rfl⟩
 have A1 : AtB bs 4 (secB (UInt8.ofNat 1) (hdB d.hd) ++ (secB (UInt8.ofNat 2) (lowB (d.fx.length : Int) 2 ++ d.fx.flatMap fxB) ++ (secB (UInt8.ofNat 3) (lowB (d.aw.length : Int) 2 ++ d.aw.flatMap awB) ++ (secB (UInt8.ofNat 4) (lowB (d.pr.length : Int) 2 ++ d.pr.flatMap prB) ++ [])))) := by
  have A2 : AtB bs 0 (magicL ++ (secB (UInt8.ofNat 1) (hdB d.hd) ++ (secB (UInt8.ofNat 2) (lowB (d.fx.length : Int) 2 ++ d.fx.flatMap fxB) ++ (secB (UInt8.ofNat 3) (lowB (d.aw.length : Int) 2 ++ d.aw.flatMap awB) ++ (secB (UInt8.ofNat 4) (lowB (d.pr.length : Int) 2 ++ d.pr.flatMap prB) ++ []))))) := by rw [← e, ← hbs]; exact A0
  exact A2.right
 rw [hbs] at hN hL hm ⊢
 clear e hbs A0
 have l1 : (hdB d.hd).length = d.hd.nm.length + 41 := by
  unfold hdB; rw [List.length_append, txtLb_one, numB_len]; (simp only [List.length_cons, List.length_nil]) <;> omega
 have s1 := A1.left
 have B1 := A1.right
 rw [secB_len] at B1
 have s2 := B1.left
 have B2 := B1.right
 rw [secB_len, List.length_append, lowB_len] at B2
 have s3 := B2.left
 have B3 := B2.right
 rw [secB_len, List.length_append, lowB_len] at B3
 have s4 := B3.left
 obtain ⟨n1, hn1⟩ : ∃ n, (hdB d.hd).length = n := ⟨_, rfl⟩
 obtain ⟨n2, hn2⟩ : ∃ n, (d.fx.flatMap fxB).length = n := ⟨_, rfl⟩
 obtain ⟨n3, hn3⟩ : ∃ n, (d.aw.flatMap awB).length = n := ⟨_, rfl⟩
 obtain ⟨n4, hn4⟩ : ∃ n, (d.pr.flatMap prB).length = n := ⟨_, rfl⟩
 have c1 := secB_con s1
 have c2 := secB_con s2
 have c3 := secB_con s3
 have c4 := secB_con s4
 have k2 : (lowB (d.fx.length : Int) 2 ++ d.fx.flatMap fxB).length = 2 + n2 := by rw [List.length_append, lowB_len, hn2]
 have k3 : (lowB (d.aw.length : Int) 2 ++ d.aw.flatMap awB).length = 2 + n3 := by rw [List.length_append, lowB_len, hn3]
 have k4 : (lowB (d.pr.length : Int) 2 ++ d.pr.flatMap prB).length = 2 + n4 := by rw [List.length_append, lowB_len, hn4]
 have hnf := h.nf; have hna := h.na; have hnp := h.np
 rw [hn1] at s2 s3 s4 c2 c3 c4 hL l1
 rw [hn2] at s3 s4 c3 c4 hL
 rw [hn3] at s4 c4 hL
 rw [hn4] at hL
 have r1 := secB_rd (k := 3) s1 (by decide) (by omega) (by
  unfold secS; rw [if_pos rfl, hdS_at h.nm c1 (by omega)])
 have r2 := secB_rd (k := 2) s2 (by decide) (by omega) (by
  unfold secS; rw [if_neg (by decide), if_pos rfl, lsS_at fxB _ d.fx (fun x hx a ha hs => fiS_at (h.fx x hx) ha hs) c2 (by omega) (by omega)]
  rw [k2, hn2]; (congr 1) <;> omega)
 have r3 := secB_rd (k := 1) s3 (by decide) (by omega) (by
  unfold secS; rw [if_neg (by decide), if_neg (by decide), if_pos rfl, lsS_at awB _ d.aw (fun x hx a ha hs => awS_at (h.aw x hx) ha hs) c3 (by omega) (by omega)]
  rw [k3, hn3]; (congr 1) <;> omega)
 have r4 := secB_rd (k := 0) s4 (by decide) (by omega) (by
  unfold secS; rw [if_neg (by decide), if_neg (by decide), if_neg (by decide), lsS_at prB _ d.pr (fun x hx a ha hs => prS_at (h.pr x hx) ha hs) c4 (by omega) (by omega)]
  rw [k4, hn4]; (congr 1) <;> omega)
 rw [hn1] at r1
 rw [k2] at r2
 rw [k3] at r3
 rw [k4] at r4
 have e2 : secN bs (4 + (5 + n1) + 5 + (2 + n2)) 2 (4 + (5 + n1) + 5, false) = d.fx.length := by
  unfold secN; rw [if_neg (by decide)]; exact lsN_at c2 (by omega) (by omega)
 have e3 : secN bs (4 + (5 + n1) + (5 + (2 + n2)) + 5 + (2 + n3)) 3 (4 + (5 + n1) + (5 + (2 + n2)) + 5, false) = d.aw.length := by
  unfold secN; rw [if_neg (by decide)]; exact lsN_at c3 (by omega) (by omega)
 have e4 : secN bs (4 + (5 + n1) + (5 + (2 + n2)) + (5 + (2 + n3)) + 5 + (2 + n4)) 4 (4 + (5 + n1) + (5 + (2 + n2)) + (5 + (2 + n3)) + 5, false) = d.pr.length := by
  unfold secN; rw [if_neg (by decide)]; exact lsN_at c4 (by omega) (by omega)
 have e1 : secN bs (4 + 5 + n1) 1 (4 + 5, false) = 1 := by unfold secN; rw [if_pos rfl]
 rw [e1] at r1
 rw [e2] at r2
 rw [e3] at r3
 rw [e4] at r4
 have r5 : rdG bs 0 5 bs.length = some [] := by unfold rdG; rw [if_pos rfl]
 have hrg : rdG bs 4 1 4 = some (dbSecs d) := by
  rw [r1, show 4 + 5 + n1 = 4 + (5 + n1) by omega, r2, show 4 + (5 + n1) + 5 + (2 + n2) = 4 + (5 + n1) + (5 + (2 + n2)) by omega, r3, show 4 + (5 + n1) + (5 + (2 + n2)) + 5 + (2 + n3) = 4 + (5 + n1) + (5 + (2 + n2)) + (5 + (2 + n3)) by omega, r4,
   show 4 + (5 + n1) + (5 + (2 + n2)) + (5 + (2 + n3)) + 5 + (2 + n4) = bs.length by omega, r5]
  unfold dbSecs
  rw [hn1, hn2, hn3, hn4]
  simp only [Option.map_some]
  rw [show 9 + n1 + 5 = 4 + (5 + n1) + 5 by omega, show 4 + (5 + n1) + 5 + (2 + n2) + 5 = 4 + (5 + n1) + (5 + (2 + n2)) + 5 by omega, show 4 + (5 + n1) + (5 + (2 + n2)) + 5 + (2 + n3) + 5 = 4 + (5 + n1) + (5 + (2 + n2)) + (5 + (2 + n3)) + 5 by omega]
 have hst : 9 + loN (tkV bs bs.length 4 (5, false)) = 9 + n1 := by
  have s1' := s1
  unfold secB at s1'
  have h2 := s1'.left.right
  rw [show [UInt8.ofNat 1].length = 1 from rfl] at h2
  rw [tkV_at h2 (lowB_len _ _) (by omega), loN_lowB, hn1, Nat.mod_eq_of_lt (by omega)]
 have hhd : imHdF bs = d.hd := by
  unfold imHdF
  rw [hst]
  have hnm := h.nm
  have hcy := h.cy
  have hfr := h.fr
  have htu := h.tu
  have hla := h.la
  have hlo := h.lo
  unfold I64 at hcy hfr htu hla hlo
  have q0 := c1
  unfold hdB at q0
  rw [txt1] at q0
  have t1 := txS_at (st := 9 + n1) q0.left (by omega) (by omega)
  have t2 := txV_at (st := 9 + n1) q0.left (by omega) (by omega)
  have q1 := q0.right
  rw [List.length_cons, show 4 + 5 + (d.hd.nm.length + 1) = 4 + 5 + 1 + d.hd.nm.length by omega] at q1
  have eN : numB [d.hd.cy, d.hd.fr, d.hd.tu, d.hd.la, d.hd.lo] = lowB d.hd.cy 8 ++ (lowB d.hd.fr 8 ++ (lowB d.hd.tu 8 ++ (lowB d.hd.la 8 ++ (lowB d.hd.lo 8 ++ [])))) := rfl
  rw [eN] at q1
  have v1 := q1.left
  have q2 := q1.right
  rw [lowB_len] at q2
  have v2 := q2.left
  have q3 := q2.right
  rw [lowB_len] at q3
  have v3 := q3.left
  have q4 := q3.right
  rw [lowB_len] at q4
  have v4 := q4.left
  have q5 := q4.right
  rw [lowB_len] at q5
  have v5 := q5.left
  unfold hdV
  rw [show ((9 : Nat), false) = (4 + 5, false) from rfl, t1, t2, n8x_at 1 (by omega), n8x_at 2 (by omega), n8x_at 3 (by omega), n8x_at 4 (by omega)]
  rw [n8V_at v1 (by omega) (by omega), n8V_at v2 (by omega) (by omega), n8V_at v3 (by omega) (by omega), n8V_at v4 (by omega) (by omega), n8V_at v5 (by omega) (by omega)]
 unfold rdF
 rw [if_pos hm, hrg, hhd]
 rfl
end Go.Proofs.YtlhniiakacbbeaaGreatDoor
