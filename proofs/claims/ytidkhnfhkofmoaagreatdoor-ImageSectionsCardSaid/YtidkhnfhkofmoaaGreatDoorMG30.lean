/-
  Several texts as one.
-/
import Derived.Test.YtidkhnfhkofmoaaGreatDoorMG04
import Derived.Laws.MakeOwn
import Derived.Deep.OwnRows
import Derived.Test.YtidkhnfhkofmoaaGreatDoorMG08
import Derived.Deep.AppendLies
namespace Go.Proofs.YtidkhnfhkofmoaaGreatDoor
open Go.RowKit
set_option linter.unusedVariables false
set_option linter.unusedSimpArgs false
def rtkV (bs : List UInt8) (st n : Nat) (s : RS) : List UInt8 := if s.2 = true ∨ st - s.1 < n then List.replicate n 0 else (bs.drop s.1).take n
theorem rtkV_no {bs : List UInt8} {st n a : Nat} {b : Bool} (h : b = true ∨ st - a < n) : rtkV bs st n (a, b) = List.replicate n 0 := by unfold rtkV; rw [if_pos h]
theorem rtkV_yes {bs : List UInt8} {st n a : Nat} (h : ¬ st - a < n) : rtkV bs st n (a, false) = (bs.drop a).take n := by unfold rtkV; rw [if_neg (by simpa using h)]
theorem rtkV_len {bs : List UInt8} {st n : Nat} {s : RS} : (rtkV bs st n s).length ≤ n := by
 unfold rtkV; split
 ·simp
 ·rw [List.length_take]; omega
theorem loN_zeros : ∀ n : Nat, loN (List.replicate n 0) = 0
 | 0 => rfl
 | n + 1 => by rw [List.replicate_succ]; show (0 : UInt8).toNat + 256 * loN (List.replicate n 0) = 0; rw [loN_zeros n]; rfl
theorem loN_rtk (bs : List UInt8) (st n : Nat) (s : RS) : loN (rtkV bs st n s) = loN (tkV bs st n s) := by
 unfold rtkV tkV; split
 ·rw [loN_zeros]; rfl
 ·rfl
theorem rtkV_good {bs : List UInt8} {st n : Nat} {s : RS} (h : (tkS st n s).2 = false) : rtkV bs st n s = tkV bs st n s := by
 unfold tkS at h
 unfold rtkV tkV
 split
 ·rename_i hb; rw [if_pos hb] at h; cases h
 ·rfl
theorem RdQ.fail {g gb ob c st : Nat} {bs : List UInt8} {a : Nat} {b : Bool} {w : World} (h : RdQ g gb ob c st bs (a, b) w) : RdQTo g gb ob c st bs (a, true) w (w.setCell ⟨g, 2, none⟩ (.bool false)) :=
 ⟨h.to (frm_set w g 2 _) (h.bx.set 2 _) h.at_, frm_set w g 2 _⟩
theorem RdQ.on {g gb ob c st : Nat} {bs : List UInt8} {a n : Nat} {w : World} (h : RdQ g gb ob c st bs (a, false) w) (hn : a + n ≤ st) : RdQTo g gb ob c st bs (a + n, false) w (w.setCell ⟨g, 1, none⟩ (.int .i64 ((a + n : Nat) : Int))) :=
 ⟨h.to (frm_set w g 1 _) (h.bx.set 1 _) hn, frm_set w g 1 _⟩
def QmBytesPost (g gb ob c st : Nat) (bs : List UInt8) (n : Nat) (s : RS) (w : World) (e : Ending) (w' : World) : Prop :=
 (∃ v, e = .returned v ∧ BsV w' v (rtkV bs st n s)) ∧ RdQTo g gb ob c st bs (tkS st n s) w w'
theorem zerosV {w : World} (n : Nat) (hn : n ≤ 4294967296) : BsV (w.alloc (.cells (madeCells #[.int .u8 0] n) 5)) (.slice (some ⟨w.heap.size, 0, none⟩) n n) (List.replicate n 0) := by
 refine ⟨_, n, by rw [List.length_replicate], by rw [List.length_replicate]; exact Nat.le_refl _, by unfold maxLen; omega, fun h0 => ⟨w.heap.size, 0, rfl, by simp, fun j b hb => ?_⟩⟩
 have hx : Bx w.heap.size (madeCells #[.int .u8 0] n) 5 (w.alloc (.cells (madeCells #[.int .u8 0] n) 5)) := Bx.last _ _ _
 rw [Nat.zero_add]
 refine hx.cell j ?_
 obtain ⟨hj, hb2⟩ := List.getElem?_eq_some_iff.1 hb
 rw [List.length_replicate] at hj
 rw [List.getElem_replicate] at hb2
 rw [← hb2]
 simp [madeCells, hj, u8c, Nat.mod_one]
set_option maxRecDepth 100000 in
set_option maxHeartbeats 8000000 in
theorem qmBytes_any {g gb ob c st : Nat} {bs : List UInt8} (s : RS) (n : Nat) (w : World) (h : RdQ g gb ob c st bs s w) (hn : n ≤ 4294967296) :
  Calls Tryz.prog 156 #[.pointer (some ⟨g, 0, none⟩), .int .i64 (n : Int)] w (QmBytesPost g gb ob c st bs n s w) := by
 obtain ⟨a, b⟩ := s
 have k0 := h.bx.cell 0 (u := .slice (some ⟨gb, ob, none⟩) st c) rfl
 have k1 := h.bx.cell 1 (u := .int .i64 (a : Int)) rfl
 have k2 := h.bx.cell 2 (u := .bool (!b)) rfl
 have f1 := h.bx.free 1
 have f2 := h.bx.free 2
 have ha : a ≤ st := h.at_
 have hst := h.st_
 have hcp := h.cap
 have hmx := h.mx
 have hmk := fun W => run_make_row' (P := Tryz.prog) 33 5 (.int .u8 0) 1 Tryz.underlying33 (by kernel_rfl) rfl .i64 .i64 n (by omega) (by omega) W
 have HNO : Hid ((b = true ∨ st - a < n) → ∀ W, Below w.heap.size w W → QmBytesPost g gb ob c st bs n (a, b) w (.returned (.slice (some ⟨W.heap.size, 0, none⟩) n n)) ((W.setCell ⟨g, 2, none⟩ (.bool false)).alloc (.cells (madeCells #[.int .u8 0] n) 5))) := by
  intro hb W hW
  unfold QmBytesPost
  rw [rtkV_no hb, tkS_no hb]
  have hr := (h.below hW).fail
  have hal : Below (W.setCell ⟨g, 2, none⟩ (.bool false)).heap.size (W.setCell ⟨g, 2, none⟩ (.bool false)) ((W.setCell ⟨g, 2, none⟩ (.bool false)).alloc (.cells (madeCells #[.int .u8 0] n) 5)) := (Below.refl _ _).alloc (Nat.le_refl _) _
  have hz := zerosV (w := W.setCell ⟨g, 2, none⟩ (.bool false)) n hn
  rw [show (W.setCell ⟨g, 2, none⟩ (.bool false)).heap.size = W.heap.size by simp] at hz
  exact ⟨⟨_, rfl, hz⟩, hr.r.below hal, ((Frm.of_below hW).trans hr.f).trans (Frm.of_below hal)⟩
 have HYES : Hid (b = false → ¬ st - a < n → ∀ W, Below w.heap.size w W → QmBytesPost g gb ob c st bs n (a, b) w (.returned (subV gb ob c a n)) (W.setCell ⟨g, 1, none⟩ (.int .i64 ((a : Int) + (n : Int))))) := by
  rintro rfl hb W hW
  unfold QmBytesPost
  rw [rtkV_yes hb, tkS_yes hb]
  have hr := (h.below hW).on (n := n) (by omega)
  rw [show ((a + n : Nat) : Int) = (a : Int) + (n : Int) by omega] at hr
  exact ⟨⟨_, rfl, BsV.sub hr.r.by_ hcp hmx (by omega)⟩, hr.r, (Frm.of_below hW).trans hr.f⟩
 unfold maxLen at hmx
 have hsc : st ≤ c := by omega
 obtain ⟨N, hN⟩ : ∃ N, bs.length = N := ⟨_, rfl⟩
 clear h hN hst hcp
 have hw1 : IntKind.i64.wrap ((st : Int) - (a : Int)) = (st : Int) - (a : Int) := by rw [IntKind.wrap_i64]; omega
 cases b with
 | true =>
  go_enter Tryz.func156, Tryz.ntmps156
  go_wp2
  go_quiet (fail)
  go_wp2
  go_ret
  exact HNO.out (.inl (by first | rfl | trivial)) _ (below_drewN' (Below.refl _ _) _)
 | false =>
  by_cases hlt : st - a < n
  ·have hd : decide ((st : Int) - (a : Int) < (n : Int)) = true := decide_eq_true (by omega)
   go_enter Tryz.func156, Tryz.ntmps156
   go_wp2
   go_quiet (fail)
   go_wp2
   go_ret
   exact HNO.out (.inr hlt) _ (below_drewN' (Below.refl _ _) _)
  ·have hd : decide ((st : Int) - (a : Int) < (n : Int)) = false := decide_eq_false (by omega)
   have hw2 : IntKind.i64.wrap ((a : Int) + (n : Int)) = (a : Int) + (n : Int) := by rw [IntKind.wrap_i64]; omega
   by_cases hca : c = a
   ·have HV : Hid (subV gb ob c a n = .slice (some ⟨gb, ob, none⟩) (a + n - a) 0) := by
     unfold Hid subV; rw [if_pos hca, Nat.add_sub_cancel_left, hca, Nat.sub_self]
    go_enter Tryz.func156, Tryz.ntmps156
    go_wp2
    go_quiet (fail)
    go_wp2
    go_quiet (fail)
    go_wp2
    go_ret
    have hz := HYES.out (by first | rfl | trivial) hlt
    rw [HV.out] at hz
    exact hz _ (below_drewN' (Below.refl _ _) _)
   ·have HV : Hid (subV gb ob c a n = .slice (some ⟨gb, ob + a, none⟩) (a + n - a) (c - a)) := by
     unfold Hid subV; rw [if_neg hca, Nat.add_sub_cancel_left]
    go_enter Tryz.func156, Tryz.ntmps156
    go_wp2
    go_quiet (fail)
    go_wp2
    go_quiet (fail)
    go_wp2
    go_ret
    have hz := HYES.out (by first | rfl | trivial) hlt
    rw [HV.out] at hz
    exact hz _ (below_drewN' (Below.refl _ _) _)
set_option maxRecDepth 100000 in
set_option maxHeartbeats 8000000 in
theorem qmNum_any {g gb ob c st : Nat} {bs : List UInt8} (s : RS) (n : Nat) (w : World) (h : RdQ g gb ob c st bs s w) (hn : n ≤ 8) :
  Calls Tryz.prog 109 #[.pointer (some ⟨g, 0, none⟩), .int .i64 (n : Int)] w fun e w' => e = .returned (.int .i64 (IntKind.i64.wrap (loN (tkV bs st n s)))) ∧ RdQTo g gb ob c st bs (tkS st n s) w w' := by
 have ht := qmBytes_any s n w h (by omega)
 unfold QmBytesPost at ht
 have hlen : (rtkV bs st n s).length ≤ n := rtkV_len
 have hlo := loN_rtk bs st n s
 obtain ⟨l, hl⟩ : ∃ l, rtkV bs st n s = l := ⟨_, rfl⟩
 rw [← hlo]
 rw [hl] at ht hlen ⊢
 clear hlo
 go_enter Tryz.func109, Tryz.ntmps109
 go_wp2_with fail
 refine ht.mono ?_
 rintro e w1 ⟨⟨v, rfl, hv⟩, hr⟩
 have HR := Lib.hid hr
 clear ht h
 obtain ⟨A, c', rfl, hc', hm', hx⟩ := hv
 obtain ⟨m, hm⟩ : ∃ m, l.length = m := ⟨_, rfl⟩
 rw [hm] at hc' hx hlen ⊢
 have HX := Lib.hid hx
 have HM := Lib.hid hm
 unfold maxLen at hm'
 clear hx hm hr hl
 go_wp2
 go_loopw [5, 12] (fun nv iv wr => ∃ k : Nat, k ≤ m ∧ iv = .int .i64 (k : Int) ∧ nv = .int .u64 ((loN (l.take k) : Nat) : Int) ∧ wr = w1) (fun _ iv _ => m - (intOf iv).toNat)
 case atStart => exact ⟨0, Nat.zero_le _, rfl, rfl, rfl⟩
 case round =>
  obtain ⟨k, hk, rfl, rfl, rfl⟩ := hrel
  by_cases hlt : k < m
  ·have hkl : k < l.length := by rw [HM.out]; exact hlt
   obtain ⟨g', o', rfl, hb⟩ := HX.out (by omega)
   have k0 := hb.cell hkl
   have hnx := loN_next hkl
   have htl := loN_take_lt l k
   have hx8 := l[k].toNat_lt
   obtain ⟨B, hB⟩ : ∃ B : Nat, l[k].toNat = B := ⟨_, rfl⟩
   obtain ⟨Ac, hAc⟩ : ∃ Ac : Nat, loN (l.take k) = Ac := ⟨_, rfl⟩
   rw [hB] at k0 hnx hx8
   rw [hAc] at hnx htl ⊢
   have hk7 : k ≤ 7 := by omega
   have hsh := shl_low B k hk7 (by omega)
   have hor := or_low Ac B k htl hk7 (by omega)
   obtain ⟨P, hP⟩ : ∃ P : Nat, B * 256 ^ k = P := ⟨_, rfl⟩
   rw [hP] at hsh hor hnx
   have HNX := Lib.hid hnx
   have hm8 : IntKind.i64.wrap (8 * (k : Int)) = ((8 * k : Nat) : Int) := by rw [IntKind.wrap_i64]; omega
   have htn : (((8 * k : Nat) : Int)).toNat = 8 * k := by omega
   have hw8 : IntKind.u64.wrap (B : Int) = (B : Int) := by rw [IntKind.wrap_u64]; omega
   clear hb hB hAc hP hnx htl
   go_wp2
   go_roundw
   case rel => exact ⟨k + 1, hlt, by go_num, by rw [HNX.out, Int.natCast_add], by trivial⟩
   case measure => simp [intOf]; omega
  ·have hkn : l.take k = l := List.take_of_length_le (by rw [HM.out]; omega)
   rw [hkn]
   clear hkn
   obtain ⟨N, hN⟩ : ∃ N : Int, ((loN l : Nat) : Int) = N := ⟨_, rfl⟩
   rw [hN]
   have HN := Lib.hid hN
   clear hN
   go_wp2
   go_ret
   rw [HN.out]
   rw [show IntKind.i64.wrap N = wrap64 N by simp only [IntKind.wrap_i64, wrap64]]
   exact ⟨rfl, HR.out⟩
def rtxV (bs : List UInt8) (st : Nat) (s : RS) : List UInt8 := rtkV bs st (byV bs st s).toNat (tkS st 1 s)
theorem rtxV_good {bs : List UInt8} {st : Nat} {s : RS} (h : (txS bs st s).2 = false) : rtxV bs st s = txV bs st s := rtkV_good h
theorem loN_one (bs : List UInt8) (st : Nat) (s : RS) : loN (tkV bs st 1 s) = (byV bs st s).toNat := by
 have hl : (tkV bs st 1 s).length ≤ 1 := tkV_len
 unfold byV
 match h : tkV bs st 1 s, hl with
 | [], _ => rfl
 | [b], _ => simp [loN]
set_option maxRecDepth 100000 in
set_option maxHeartbeats 8000000 in
theorem qmText_any {g gb ob c st : Nat} {bs : List UInt8} (s : RS) (w : World) (h : RdQ g gb ob c st bs s w) :
  Calls Tryz.prog 157 #[.pointer (some ⟨g, 0, none⟩)] w fun e w' => e = .returned (.string (sb (rtxV bs st s))) ∧ RdQTo g gb ob c st bs (txS bs st s) w w' := by
 have h1 := qmNum_any s 1 w h (by omega)
 rw [loN_one] at h1
 have h2 := fun W (hW : RdQ g gb ob c st bs (tkS st 1 s) W) => qmBytes_any (tkS st 1 s) (byV bs st s).toNat W hW (by have := (byV bs st s).toNat_lt; omega)
 have hx8 := (byV bs st s).toNat_lt
 obtain ⟨B, hB⟩ : ∃ B : Nat, (byV bs st s).toNat = B := ⟨_, rfl⟩
 have HS : Hid (txS bs st s = tkS st B (tkS st 1 s)) := by unfold Hid txS; rw [hB]
 have HV : Hid (rtxV bs st s = rtkV bs st B (tkS st 1 s)) := by unfold Hid rtxV; rw [hB]
 rw [hB] at h1 h2 hx8
 rw [show IntKind.i64.wrap (B : Int) = (B : Int) by rw [IntKind.wrap_i64]; omega] at h1
 have H2 := Lib.hid h2
 clear hB h2
 go_enter Tryz.func157, Tryz.ntmps157
 go_wp2_with fail
 refine h1.mono ?_
 rintro e w1 ⟨rfl, hr⟩
 have HR1 := Lib.hid hr
 have h3 := H2.out w1 hr.r
 clear h1 hr h H2
 go_wp2_with fail
 refine h3.mono ?_
 rintro e w2 ⟨⟨v, rfl, hv⟩, hr2⟩
 have HR2 := Lib.hid (HR1.out.then_ hr2)
 have hcv := bsv_string hv
 obtain ⟨l, hl⟩ : ∃ l, rtkV bs st B (tkS st 1 s) = l := ⟨_, rfl⟩
 rw [hl] at hcv
 have HL := Lib.hid hl
 clear h3 hr2 hv HR1 hl
 go_wp2
 go_ret
 rw [HS.out, HV.out, HL.out]
 exact ⟨rfl, HR2.out⟩
abbrev BxI := Nat × Array Value × TypeId
structure RwI where
 T : TypeId
 K : Nat
 v : Value
 n : Nat
 xs : List Value
theorem own_off {base : Nat} {w w' : World} {e : TypeId} {size n : Nat} {v : Value} {xs : List Value} (h : w.ownsRow base e size v n xs) (hk : ∀ k, v.ownBlock = some k → w'.heap[k]? = w.heap[k]?) : w'.ownsRow base e size v n xs := by
 obtain ⟨hl, h2 | ⟨b, cap, cur, hv, hb, hh, r⟩⟩ := h
 ·exact ⟨hl, .inl h2⟩
 ·exact ⟨hl, .inr ⟨b, cap, cur, hv, hb, (hk b (by rw [hv]; rfl)).trans hh, r⟩⟩
structure QS (g gb ob c st : Nat) (bs : List UInt8) (S : Nat → Prop) (w0 : World) (s : RS) (bx : List BxI) (rw : List RwI) (w : World) : Prop where
 q : RdQ g gb ob c st bs s w
 b : ∀ x ∈ bx, Bx x.1 x.2.1 x.2.2 w
 nd : (bx.map (·.1)).Nodup
 ng : ∀ x ∈ bx, x.1 ≠ g ∧ x.1 ≠ gb
 r : ∀ y ∈ rw, w.ownsRow w0.heap.size y.T y.K y.v y.n y.xs
 dj : ∀ y ∈ rw, ∀ k, y.v.ownBlock = some k → ∀ x ∈ bx, k ≠ x.1
 dr : rw.Pairwise (fun y z => ∀ k, y.v.ownBlock = some k → z.v.ownBlock ≠ some k)
 f : Frm S w0 w
 sg : S g
 sb : ∀ x ∈ bx, S x.1 ∨ w0.heap.size ≤ x.1
 gl : g < w0.heap.size
 gbl : gb < w0.heap.size
section
variable {g gb ob c st : Nat} {bs : List UInt8} {S : Nat → Prop} {w0 w w' : World} {s s' : RS} {bx : List BxI} {rw : List RwI}
theorem QS.start {w0 : World} (h : RdQ g gb ob c st bs s w0) (hS : S g) : QS g gb ob c st bs S w0 s [] [] w0 :=
 ⟨h, by simp, by simp, by simp, by simp, by simp, by simp, Frm.refl _ _, hS, by simp, h.lt, h.by_.1⟩
theorem QS.call (h : QS g gb ob c st bs S w0 s bx rw w) (k : RdQTo g gb ob c st bs s' w w') : QS g gb ob c st bs S w0 s' bx rw w' :=
 ⟨k.r, fun x hx => (k.f.block x.1 (h.b x hx).lt (h.ng x hx).1).trans (h.b x hx), h.nd, h.ng, fun y hy => own_frm2 (h.r y hy) k.f h.gl, h.dj, h.dr, h.f.trans (k.f.mono (fun j e => e ▸ h.sg)), h.sg, h.sb, h.gl, h.gbl⟩
theorem QS.below (h : QS g gb ob c st bs S w0 s bx rw w) (hb : Below w.heap.size w w') : QS g gb ob c st bs S w0 s bx rw w' :=
 ⟨h.q.below hb, fun x hx => (h.b x hx).via hb, h.nd, h.ng, fun y hy => own_below (h.r y hy) hb, h.dj, h.dr, h.f.trans (Frm.of_below hb), h.sg, h.sb, h.gl, h.gbl⟩
theorem QS.alloc (h : QS g gb ob c st bs S w0 s bx rw w) (cs : Array Value) (T : TypeId) : QS g gb ob c st bs S w0 s ((w.heap.size, cs, T) :: bx) rw (w.alloc (.cells cs T)) := by
 have hb := (Below.refl w.heap.size w).alloc (Nat.le_refl _) (.cells cs T)
 have h1 := h.below hb
 have h2 := h.q.lt
 have h3 := h.q.by_.1
 refine ⟨h1.q, ?_, ?_, ?_, h1.r, ?_, h.dr, h1.f, h.sg, ?_, h.gl, h.gbl⟩
 ·intro x hx
  rcases List.mem_cons.1 hx with rfl | hx
  ·exact Bx.last _ _ _
  ·exact h1.b x hx
 ·rw [List.map_cons, List.nodup_cons]
  refine ⟨fun hm => ?_, h.nd⟩
  obtain ⟨x, hx, he⟩ := List.mem_map.1 hm
  have := (h.b x hx).lt
  simp only at he; omega
 ·intro x hx
  rcases List.mem_cons.1 hx with rfl | hx
  ·exact ⟨by simp only; omega, by simp only; omega⟩
  ·exact h.ng x hx
 ·intro y hy k hk x hx
  rcases List.mem_cons.1 hx with rfl | hx
  ·have := ((h.r y hy).lt k hk).2
   simp only; omega
  ·exact h.dj y hy k hk x hx
 ·intro x hx
  rcases List.mem_cons.1 hx with rfl | hx
  ·exact .inr h.f.size
  ·exact h.sb x hx
theorem QS.box (h : QS g gb ob c st bs S w0 s bx rw w) {d : Nat} {cs : Array Value} {T : TypeId} (hd : Bx d cs T w) (h1 : d ≠ g) (h2 : d ≠ gb) (h3 : S d ∨ w0.heap.size ≤ d) (h4 : d ∉ bx.map (·.1)) (h5 : ∀ y ∈ rw, ∀ k, y.v.ownBlock = some k → k ≠ d) : QS g gb ob c st bs S w0 s ((d, cs, T) :: bx) rw w := by
 refine ⟨h.q, ?_, ?_, ?_, h.r, ?_, h.dr, h.f, h.sg, ?_, h.gl, h.gbl⟩
 ·intro x hx
  rcases List.mem_cons.1 hx with rfl | hx
  ·exact hd
  ·exact h.b x hx
 ·rw [List.map_cons, List.nodup_cons]
  exact ⟨h4, h.nd⟩
 ·intro x hx
  rcases List.mem_cons.1 hx with rfl | hx
  ·exact ⟨h1, h2⟩
  ·exact h.ng x hx
 ·intro y hy k hk x hx
  rcases List.mem_cons.1 hx with rfl | hx
  ·exact h5 y hy k hk
  ·exact h.dj y hy k hk x hx
 ·intro x hx
  rcases List.mem_cons.1 hx with rfl | hx
  ·exact h3
  ·exact h.sb x hx
theorem QS.drop (h : QS g gb ob c st bs S w0 s bx rw w) {bx' : List BxI} (hs : List.Sublist bx' bx) : QS g gb ob c st bs S w0 s bx' rw w :=
 ⟨h.q, fun x hx => h.b x (hs.subset hx), h.nd.sublist (hs.map _), fun x hx => h.ng x (hs.subset hx), h.r, fun y hy k hk x hx => h.dj y hy k hk x (hs.subset hx), h.dr, h.f, h.sg, fun x hx => h.sb x (hs.subset hx), h.gl, h.gbl⟩
theorem QS.pop {a : BxI} (h : QS g gb ob c st bs S w0 s (a :: bx) rw w) : QS g gb ob c st bs S w0 s bx rw w := h.drop (List.sublist_cons_self _ _)
theorem QS.dropR (h : QS g gb ob c st bs S w0 s bx rw w) {rw' : List RwI} (hs : List.Sublist rw' rw) : QS g gb ob c st bs S w0 s bx rw' w :=
 ⟨h.q, h.b, h.nd, h.ng, fun y hy => h.r y (hs.subset hy), fun y hy => h.dj y (hs.subset hy), h.dr.sublist hs, h.f, h.sg, h.sb, h.gl, h.gbl⟩
theorem QS.popR {a : RwI} (h : QS g gb ob c st bs S w0 s bx (a :: rw) w) : QS g gb ob c st bs S w0 s bx rw w := h.dropR (List.sublist_cons_self _ _)
theorem QS.row (h : QS g gb ob c st bs S w0 s bx rw w) (T : TypeId) (K : Nat) : QS g gb ob c st bs S w0 s bx (⟨T, K, .slice none 0 0, 0, []⟩ :: rw) w := by
 refine ⟨h.q, h.b, h.nd, h.ng, ?_, ?_, ?_, h.f, h.sg, h.sb, h.gl, h.gbl⟩
 ·intro y hy
  rcases List.mem_cons.1 hy with rfl | hy
  ·exact World.ownsRow_nil _ _ _ _
  ·exact h.r y hy
 ·intro y hy k hk
  rcases List.mem_cons.1 hy with rfl | hy
  ·cases hk
  ·exact h.dj y hy k hk
 ·rw [List.pairwise_cons]
  exact ⟨fun z hz k hk => (by cases hk), h.dr⟩
theorem QS.set {A C : List BxI} {q : Nat} {cs : Array Value} {T : TypeId} (h : QS g gb ob c st bs S w0 s (A ++ (q, cs, T) :: C) rw w) (j : Nat) (u : Value) : QS g gb ob c st bs S w0 s (A ++ (q, cs.setIfInBounds j u, T) :: C) rw (w.setCell ⟨q, j, none⟩ u) := by
 have hm : (q, cs, T) ∈ A ++ (q, cs, T) :: C := by simp
 have hf := frm_set w q j u
 have hq := h.ng _ hm
 have hnd := h.nd
 rw [List.map_append, List.map_cons, List.nodup_append] at hnd
 obtain ⟨_, hnc, hna⟩ := hnd
 rw [List.nodup_cons] at hnc
 have hot : ∀ x, x ∈ A ∨ x ∈ C → x.1 ≠ q := by
  intro x hx e
  rcases hx with hx | hx
  ·exact hna x.1 (List.mem_map.2 ⟨x, hx, rfl⟩) q (by simp) e
  ·exact hnc.1 (List.mem_map.2 ⟨x, hx, e⟩)
 have hmm : ∀ x, x ∈ A ++ (q, cs.setIfInBounds j u, T) :: C → (x = (q, cs.setIfInBounds j u, T)) ∨ ((x ∈ A ∨ x ∈ C) ∧ x ∈ A ++ (q, cs, T) :: C) := by
  intro x hx
  simp only [List.mem_append, List.mem_cons] at hx ⊢
  rcases hx with hx | hx | hx
  ·exact .inr ⟨.inl hx, .inl hx⟩
  ·exact .inl hx
  ·exact .inr ⟨.inr hx, .inr (.inr hx)⟩
 refine ⟨h.q.keep hf (fun e => hq.1 e.symm) (fun e => hq.2 e.symm), ?_, by have := h.nd; simpa using this, ?_, ?_, ?_, h.dr, ?_, h.sg, ?_, h.gl, h.gbl⟩
 ·intro x hx
  rcases hmm x hx with rfl | ⟨h1, h2⟩
  ·exact (h.b _ hm).set j u
  ·exact (hf.block x.1 (h.b x h2).lt (hot x h1)).trans (h.b x h2)
 ·intro x hx
  rcases hmm x hx with rfl | ⟨h1, h2⟩
  ·exact hq
  ·exact h.ng x h2
 ·intro y hy
  exact own_off (h.r y hy) (fun k hk => hf.block k ((h.r y hy).lt k hk).2 (h.dj y hy k hk _ hm))
 ·intro y hy k hk x hx
  rcases hmm x hx with rfl | ⟨h1, h2⟩
  ·exact h.dj y hy k hk (q, cs, T) hm
  ·exact h.dj y hy k hk x h2
 ·refine ⟨h.f.os, h.f.tape, h.f.output, Nat.le_trans h.f.size hf.size, fun k hk hn => ?_⟩
  have hkq : k ≠ q := fun e => by
   rcases h.sb _ hm with h1 | h1
   ·exact hn (e ▸ h1)
   ·simp only at h1; omega
  exact (hf.block k (Nat.lt_of_lt_of_le hk h.f.size) hkq).trans (h.f.block k hk hn)
 ·intro x hx
  rcases hmm x hx with rfl | ⟨h1, h2⟩
  ·exact h.sb (q, cs, T) hm
  ·exact h.sb x h2
theorem QS.set0 {C : List BxI} {q : Nat} {cs : Array Value} {T : TypeId} (h : QS g gb ob c st bs S w0 s ((q, cs, T) :: C) rw w) (j : Nat) (u : Value) : QS g gb ob c st bs S w0 s ((q, cs.setIfInBounds j u, T) :: C) rw (w.setCell ⟨q, j, none⟩ u) := QS.set (A := []) h j u
theorem QS.set1 {a : BxI} {C : List BxI} {q : Nat} {cs : Array Value} {T : TypeId} (h : QS g gb ob c st bs S w0 s (a :: (q, cs, T) :: C) rw w) (j : Nat) (u : Value) : QS g gb ob c st bs S w0 s (a :: (q, cs.setIfInBounds j u, T) :: C) rw (w.setCell ⟨q, j, none⟩ u) := QS.set (A := [a]) h j u
theorem QS.setF (h : QS g gb ob c st bs S w0 s bx rw w) : QS g gb ob c st bs S w0 (s.1, true) bx rw (w.setCell ⟨g, 2, none⟩ (.bool false)) := by
 obtain ⟨a, b⟩ := s
 exact h.call h.q.fail
theorem QS.x0 {C : List BxI} {q : Nat} {cs : Array Value} {T : TypeId} (h : QS g gb ob c st bs S w0 s ((q, cs, T) :: C) rw w) : Bx q cs T w := h.b (q, cs, T) (by simp)
theorem QS.x1 {a : BxI} {C : List BxI} {q : Nat} {cs : Array Value} {T : TypeId} (h : QS g gb ob c st bs S w0 s (a :: (q, cs, T) :: C) rw w) : Bx q cs T w := h.b (q, cs, T) (by simp)
theorem QS.x2 {a a2 : BxI} {C : List BxI} {q : Nat} {cs : Array Value} {T : TypeId} (h : QS g gb ob c st bs S w0 s (a :: a2 :: (q, cs, T) :: C) rw w) : Bx q cs T w := h.b (q, cs, T) (by simp)
theorem QS.r0 {R : List RwI} {T : TypeId} {K n : Nat} {v : Value} {xs : List Value} (h : QS g gb ob c st bs S w0 s bx (⟨T, K, v, n, xs⟩ :: R) w) : w.ownsRow w0.heap.size T K v n xs := h.r ⟨T, K, v, n, xs⟩ (by simp)
theorem QS.r1 {a : RwI} {R : List RwI} {T : TypeId} {K n : Nat} {v : Value} {xs : List Value} (h : QS g gb ob c st bs S w0 s bx (a :: ⟨T, K, v, n, xs⟩ :: R) w) : w.ownsRow w0.heap.size T K v n xs := h.r ⟨T, K, v, n, xs⟩ (by simp)
theorem QS.push {R : List RwI} {T : TypeId} {K n n' : Nat} {v v' : Value} {xs xs' : List Value} (h : QS g gb ob c st bs S w0 s bx (⟨T, K, v, n, xs⟩ :: R) w) (hown : w'.ownsRow w0.heap.size T K v' n' xs') (hg : w.grownBy w' v.ownBlock) (hor : ∀ k, v'.ownBlock = some k → v.ownBlock = some k ∨ w.heap.size ≤ k) :
  QS g gb ob c st bs S w0 s bx (⟨T, K, v', n', xs'⟩ :: R) w' := by
 have hm : (⟨T, K, v, n, xs⟩ : RwI) ∈ (⟨T, K, v, n, xs⟩ : RwI) :: R := by simp
 have hlt := h.r0.lt
 have hf : Frm (fun k => v.ownBlock = some k) w w' := ⟨hg.os, hg.tape, hg.output, hg.size, fun k hk hn => hg.block k hk (fun e => hn e.symm)⟩
 have hgv : ¬ v.ownBlock = some g := fun e => by have := (hlt _ e).1; have := h.gl; omega
 have hgbv : ¬ v.ownBlock = some gb := fun e => by have := (hlt _ e).1; have := h.gbl; omega
 have hdr := h.dr
 rw [List.pairwise_cons] at hdr
 refine ⟨h.q.keep hf hgv hgbv, ?_, h.nd, h.ng, ?_, ?_, ?_, ?_, h.sg, h.sb, h.gl, h.gbl⟩
 ·intro x hx
  exact (hf.block x.1 (h.b x hx).lt (fun e => h.dj _ hm _ e x hx rfl)).trans (h.b x hx)
 ·intro y hy
  rcases List.mem_cons.1 hy with rfl | hy
  ·exact hown
  ·have hyr := h.r y (List.mem_cons_of_mem _ hy)
   exact own_off hyr (fun k hk => hf.block k (hyr.lt k hk).2 (fun e => hdr.1 y hy k e hk))
 ·intro y hy k hk x hx
  rcases List.mem_cons.1 hy with rfl | hy
  ·rcases hor k hk with h1 | h1
   ·exact h.dj _ hm k h1 x hx
   ·have := (h.b x hx).lt; omega
  ·exact h.dj y (List.mem_cons_of_mem _ hy) k hk x hx
 ·rw [List.pairwise_cons]
  refine ⟨fun z hz k hk => ?_, hdr.2⟩
  rcases hor k hk with h1 | h1
  ·exact hdr.1 z hz k h1
  ·intro e
   have := ((h.r z (List.mem_cons_of_mem _ hz)).lt k e).2
   omega
 ·refine ⟨hf.os.trans h.f.os, hf.tape.trans h.f.tape, hf.output.trans h.f.output, Nat.le_trans h.f.size hf.size, fun k hk hn => ?_⟩
  exact (hf.block k (Nat.lt_of_lt_of_le hk h.f.size) (fun e => by have := (hlt _ e).1; omega)).trans (h.f.block k hk hn)
end
section
variable {g gb ob c st : Nat} {bs : List UInt8} {S : Nat → Prop} {w0 w w' : World} {s s' : RS} {bx : List BxI} {rw : List RwI}
theorem QS.s0_13_1 {C : List BxI} {q : Nat} {T : TypeId} {x0 x1 x2 x3 x4 x5 x6 x7 x8 x9 x10 x11 x12 : Value} (h : QS g gb ob c st bs S w0 s ((q, #[x0, x1, x2, x3, x4, x5, x6, x7, x8, x9, x10, x11, x12], T) :: C) rw w) (u : Value) : QS g gb ob c st bs S w0 s ((q, #[x0, u, x2, x3, x4, x5, x6, x7, x8, x9, x10, x11, x12], T) :: C) rw (w.setCell ⟨q, 1, none⟩ u) := h.set0 1 u
theorem QS.s0_13_2 {C : List BxI} {q : Nat} {T : TypeId} {x0 x1 x2 x3 x4 x5 x6 x7 x8 x9 x10 x11 x12 : Value} (h : QS g gb ob c st bs S w0 s ((q, #[x0, x1, x2, x3, x4, x5, x6, x7, x8, x9, x10, x11, x12], T) :: C) rw w) (u : Value) : QS g gb ob c st bs S w0 s ((q, #[x0, x1, u, x3, x4, x5, x6, x7, x8, x9, x10, x11, x12], T) :: C) rw (w.setCell ⟨q, 2, none⟩ u) := h.set0 2 u
theorem QS.s0_13_3 {C : List BxI} {q : Nat} {T : TypeId} {x0 x1 x2 x3 x4 x5 x6 x7 x8 x9 x10 x11 x12 : Value} (h : QS g gb ob c st bs S w0 s ((q, #[x0, x1, x2, x3, x4, x5, x6, x7, x8, x9, x10, x11, x12], T) :: C) rw w) (u : Value) : QS g gb ob c st bs S w0 s ((q, #[x0, x1, x2, u, x4, x5, x6, x7, x8, x9, x10, x11, x12], T) :: C) rw (w.setCell ⟨q, 3, none⟩ u) := h.set0 3 u
theorem QS.s0_13_4 {C : List BxI} {q : Nat} {T : TypeId} {x0 x1 x2 x3 x4 x5 x6 x7 x8 x9 x10 x11 x12 : Value} (h : QS g gb ob c st bs S w0 s ((q, #[x0, x1, x2, x3, x4, x5, x6, x7, x8, x9, x10, x11, x12], T) :: C) rw w) (u : Value) : QS g gb ob c st bs S w0 s ((q, #[x0, x1, x2, x3, u, x5, x6, x7, x8, x9, x10, x11, x12], T) :: C) rw (w.setCell ⟨q, 4, none⟩ u) := h.set0 4 u
theorem QS.s0_13_5 {C : List BxI} {q : Nat} {T : TypeId} {x0 x1 x2 x3 x4 x5 x6 x7 x8 x9 x10 x11 x12 : Value} (h : QS g gb ob c st bs S w0 s ((q, #[x0, x1, x2, x3, x4, x5, x6, x7, x8, x9, x10, x11, x12], T) :: C) rw w) (u : Value) : QS g gb ob c st bs S w0 s ((q, #[x0, x1, x2, x3, x4, u, x6, x7, x8, x9, x10, x11, x12], T) :: C) rw (w.setCell ⟨q, 5, none⟩ u) := h.set0 5 u
theorem QS.s0_13_6 {C : List BxI} {q : Nat} {T : TypeId} {x0 x1 x2 x3 x4 x5 x6 x7 x8 x9 x10 x11 x12 : Value} (h : QS g gb ob c st bs S w0 s ((q, #[x0, x1, x2, x3, x4, x5, x6, x7, x8, x9, x10, x11, x12], T) :: C) rw w) (u : Value) : QS g gb ob c st bs S w0 s ((q, #[x0, x1, x2, x3, x4, x5, u, x7, x8, x9, x10, x11, x12], T) :: C) rw (w.setCell ⟨q, 6, none⟩ u) := h.set0 6 u
theorem QS.s0_13_7 {C : List BxI} {q : Nat} {T : TypeId} {x0 x1 x2 x3 x4 x5 x6 x7 x8 x9 x10 x11 x12 : Value} (h : QS g gb ob c st bs S w0 s ((q, #[x0, x1, x2, x3, x4, x5, x6, x7, x8, x9, x10, x11, x12], T) :: C) rw w) (u : Value) : QS g gb ob c st bs S w0 s ((q, #[x0, x1, x2, x3, x4, x5, x6, u, x8, x9, x10, x11, x12], T) :: C) rw (w.setCell ⟨q, 7, none⟩ u) := h.set0 7 u
theorem QS.s0_13_8 {C : List BxI} {q : Nat} {T : TypeId} {x0 x1 x2 x3 x4 x5 x6 x7 x8 x9 x10 x11 x12 : Value} (h : QS g gb ob c st bs S w0 s ((q, #[x0, x1, x2, x3, x4, x5, x6, x7, x8, x9, x10, x11, x12], T) :: C) rw w) (u : Value) : QS g gb ob c st bs S w0 s ((q, #[x0, x1, x2, x3, x4, x5, x6, x7, u, x9, x10, x11, x12], T) :: C) rw (w.setCell ⟨q, 8, none⟩ u) := h.set0 8 u
theorem QS.s0_13_9 {C : List BxI} {q : Nat} {T : TypeId} {x0 x1 x2 x3 x4 x5 x6 x7 x8 x9 x10 x11 x12 : Value} (h : QS g gb ob c st bs S w0 s ((q, #[x0, x1, x2, x3, x4, x5, x6, x7, x8, x9, x10, x11, x12], T) :: C) rw w) (u : Value) : QS g gb ob c st bs S w0 s ((q, #[x0, x1, x2, x3, x4, x5, x6, x7, x8, u, x10, x11, x12], T) :: C) rw (w.setCell ⟨q, 9, none⟩ u) := h.set0 9 u
theorem QS.s0_13_10 {C : List BxI} {q : Nat} {T : TypeId} {x0 x1 x2 x3 x4 x5 x6 x7 x8 x9 x10 x11 x12 : Value} (h : QS g gb ob c st bs S w0 s ((q, #[x0, x1, x2, x3, x4, x5, x6, x7, x8, x9, x10, x11, x12], T) :: C) rw w) (u : Value) : QS g gb ob c st bs S w0 s ((q, #[x0, x1, x2, x3, x4, x5, x6, x7, x8, x9, u, x11, x12], T) :: C) rw (w.setCell ⟨q, 10, none⟩ u) := h.set0 10 u
theorem QS.s0_13_11 {C : List BxI} {q : Nat} {T : TypeId} {x0 x1 x2 x3 x4 x5 x6 x7 x8 x9 x10 x11 x12 : Value} (h : QS g gb ob c st bs S w0 s ((q, #[x0, x1, x2, x3, x4, x5, x6, x7, x8, x9, x10, x11, x12], T) :: C) rw w) (u : Value) : QS g gb ob c st bs S w0 s ((q, #[x0, x1, x2, x3, x4, x5, x6, x7, x8, x9, x10, u, x12], T) :: C) rw (w.setCell ⟨q, 11, none⟩ u) := h.set0 11 u
theorem QS.s0_13_12 {C : List BxI} {q : Nat} {T : TypeId} {x0 x1 x2 x3 x4 x5 x6 x7 x8 x9 x10 x11 x12 : Value} (h : QS g gb ob c st bs S w0 s ((q, #[x0, x1, x2, x3, x4, x5, x6, x7, x8, x9, x10, x11, x12], T) :: C) rw w) (u : Value) : QS g gb ob c st bs S w0 s ((q, #[x0, x1, x2, x3, x4, x5, x6, x7, x8, x9, x10, x11, u], T) :: C) rw (w.setCell ⟨q, 12, none⟩ u) := h.set0 12 u
theorem QS.s0_7_1 {C : List BxI} {q : Nat} {T : TypeId} {x0 x1 x2 x3 x4 x5 x6 : Value} (h : QS g gb ob c st bs S w0 s ((q, #[x0, x1, x2, x3, x4, x5, x6], T) :: C) rw w) (u : Value) : QS g gb ob c st bs S w0 s ((q, #[x0, u, x2, x3, x4, x5, x6], T) :: C) rw (w.setCell ⟨q, 1, none⟩ u) := h.set0 1 u
theorem QS.s0_7_2 {C : List BxI} {q : Nat} {T : TypeId} {x0 x1 x2 x3 x4 x5 x6 : Value} (h : QS g gb ob c st bs S w0 s ((q, #[x0, x1, x2, x3, x4, x5, x6], T) :: C) rw w) (u : Value) : QS g gb ob c st bs S w0 s ((q, #[x0, x1, u, x3, x4, x5, x6], T) :: C) rw (w.setCell ⟨q, 2, none⟩ u) := h.set0 2 u
theorem QS.s0_7_3 {C : List BxI} {q : Nat} {T : TypeId} {x0 x1 x2 x3 x4 x5 x6 : Value} (h : QS g gb ob c st bs S w0 s ((q, #[x0, x1, x2, x3, x4, x5, x6], T) :: C) rw w) (u : Value) : QS g gb ob c st bs S w0 s ((q, #[x0, x1, x2, u, x4, x5, x6], T) :: C) rw (w.setCell ⟨q, 3, none⟩ u) := h.set0 3 u
theorem QS.s0_7_4 {C : List BxI} {q : Nat} {T : TypeId} {x0 x1 x2 x3 x4 x5 x6 : Value} (h : QS g gb ob c st bs S w0 s ((q, #[x0, x1, x2, x3, x4, x5, x6], T) :: C) rw w) (u : Value) : QS g gb ob c st bs S w0 s ((q, #[x0, x1, x2, x3, u, x5, x6], T) :: C) rw (w.setCell ⟨q, 4, none⟩ u) := h.set0 4 u
theorem QS.s0_7_5 {C : List BxI} {q : Nat} {T : TypeId} {x0 x1 x2 x3 x4 x5 x6 : Value} (h : QS g gb ob c st bs S w0 s ((q, #[x0, x1, x2, x3, x4, x5, x6], T) :: C) rw w) (u : Value) : QS g gb ob c st bs S w0 s ((q, #[x0, x1, x2, x3, x4, u, x6], T) :: C) rw (w.setCell ⟨q, 5, none⟩ u) := h.set0 5 u
theorem QS.s0_7_6 {C : List BxI} {q : Nat} {T : TypeId} {x0 x1 x2 x3 x4 x5 x6 : Value} (h : QS g gb ob c st bs S w0 s ((q, #[x0, x1, x2, x3, x4, x5, x6], T) :: C) rw w) (u : Value) : QS g gb ob c st bs S w0 s ((q, #[x0, x1, x2, x3, x4, x5, u], T) :: C) rw (w.setCell ⟨q, 6, none⟩ u) := h.set0 6 u
theorem QS.s0_4_1 {C : List BxI} {q : Nat} {T : TypeId} {x0 x1 x2 x3 : Value} (h : QS g gb ob c st bs S w0 s ((q, #[x0, x1, x2, x3], T) :: C) rw w) (u : Value) : QS g gb ob c st bs S w0 s ((q, #[x0, u, x2, x3], T) :: C) rw (w.setCell ⟨q, 1, none⟩ u) := h.set0 1 u
theorem QS.s0_4_2 {C : List BxI} {q : Nat} {T : TypeId} {x0 x1 x2 x3 : Value} (h : QS g gb ob c st bs S w0 s ((q, #[x0, x1, x2, x3], T) :: C) rw w) (u : Value) : QS g gb ob c st bs S w0 s ((q, #[x0, x1, u, x3], T) :: C) rw (w.setCell ⟨q, 2, none⟩ u) := h.set0 2 u
theorem QS.s0_4_3 {C : List BxI} {q : Nat} {T : TypeId} {x0 x1 x2 x3 : Value} (h : QS g gb ob c st bs S w0 s ((q, #[x0, x1, x2, x3], T) :: C) rw w) (u : Value) : QS g gb ob c st bs S w0 s ((q, #[x0, x1, x2, u], T) :: C) rw (w.setCell ⟨q, 3, none⟩ u) := h.set0 3 u
theorem QS.s0_3_1 {C : List BxI} {q : Nat} {T : TypeId} {x0 x1 x2 : Value} (h : QS g gb ob c st bs S w0 s ((q, #[x0, x1, x2], T) :: C) rw w) (u : Value) : QS g gb ob c st bs S w0 s ((q, #[x0, u, x2], T) :: C) rw (w.setCell ⟨q, 1, none⟩ u) := h.set0 1 u
theorem QS.s0_3_2 {C : List BxI} {q : Nat} {T : TypeId} {x0 x1 x2 : Value} (h : QS g gb ob c st bs S w0 s ((q, #[x0, x1, x2], T) :: C) rw w) (u : Value) : QS g gb ob c st bs S w0 s ((q, #[x0, x1, u], T) :: C) rw (w.setCell ⟨q, 2, none⟩ u) := h.set0 2 u
theorem QS.s0_2_1 {C : List BxI} {q : Nat} {T : TypeId} {x0 x1 : Value} (h : QS g gb ob c st bs S w0 s ((q, #[x0, x1], T) :: C) rw w) (u : Value) : QS g gb ob c st bs S w0 s ((q, #[x0, u], T) :: C) rw (w.setCell ⟨q, 1, none⟩ u) := h.set0 1 u
theorem QS.s0_9_0 {C : List BxI} {q : Nat} {T : TypeId} {x0 x1 x2 x3 x4 x5 x6 x7 x8 : Value} (h : QS g gb ob c st bs S w0 s ((q, #[x0, x1, x2, x3, x4, x5, x6, x7, x8], T) :: C) rw w) (u : Value) : QS g gb ob c st bs S w0 s ((q, #[u, x1, x2, x3, x4, x5, x6, x7, x8], T) :: C) rw (w.setCell ⟨q, 0, none⟩ u) := h.set0 0 u
theorem QS.s0_9_1 {C : List BxI} {q : Nat} {T : TypeId} {x0 x1 x2 x3 x4 x5 x6 x7 x8 : Value} (h : QS g gb ob c st bs S w0 s ((q, #[x0, x1, x2, x3, x4, x5, x6, x7, x8], T) :: C) rw w) (u : Value) : QS g gb ob c st bs S w0 s ((q, #[x0, u, x2, x3, x4, x5, x6, x7, x8], T) :: C) rw (w.setCell ⟨q, 1, none⟩ u) := h.set0 1 u
theorem QS.s0_9_2 {C : List BxI} {q : Nat} {T : TypeId} {x0 x1 x2 x3 x4 x5 x6 x7 x8 : Value} (h : QS g gb ob c st bs S w0 s ((q, #[x0, x1, x2, x3, x4, x5, x6, x7, x8], T) :: C) rw w) (u : Value) : QS g gb ob c st bs S w0 s ((q, #[x0, x1, u, x3, x4, x5, x6, x7, x8], T) :: C) rw (w.setCell ⟨q, 2, none⟩ u) := h.set0 2 u
theorem QS.s0_9_3 {C : List BxI} {q : Nat} {T : TypeId} {x0 x1 x2 x3 x4 x5 x6 x7 x8 : Value} (h : QS g gb ob c st bs S w0 s ((q, #[x0, x1, x2, x3, x4, x5, x6, x7, x8], T) :: C) rw w) (u : Value) : QS g gb ob c st bs S w0 s ((q, #[x0, x1, x2, u, x4, x5, x6, x7, x8], T) :: C) rw (w.setCell ⟨q, 3, none⟩ u) := h.set0 3 u
theorem QS.s0_9_4 {C : List BxI} {q : Nat} {T : TypeId} {x0 x1 x2 x3 x4 x5 x6 x7 x8 : Value} (h : QS g gb ob c st bs S w0 s ((q, #[x0, x1, x2, x3, x4, x5, x6, x7, x8], T) :: C) rw w) (u : Value) : QS g gb ob c st bs S w0 s ((q, #[x0, x1, x2, x3, u, x5, x6, x7, x8], T) :: C) rw (w.setCell ⟨q, 4, none⟩ u) := h.set0 4 u
theorem QS.s0_9_5 {C : List BxI} {q : Nat} {T : TypeId} {x0 x1 x2 x3 x4 x5 x6 x7 x8 : Value} (h : QS g gb ob c st bs S w0 s ((q, #[x0, x1, x2, x3, x4, x5, x6, x7, x8], T) :: C) rw w) (u : Value) : QS g gb ob c st bs S w0 s ((q, #[x0, x1, x2, x3, x4, u, x6, x7, x8], T) :: C) rw (w.setCell ⟨q, 5, none⟩ u) := h.set0 5 u
theorem QS.s0_9_8 {C : List BxI} {q : Nat} {T : TypeId} {x0 x1 x2 x3 x4 x5 x6 x7 x8 : Value} (h : QS g gb ob c st bs S w0 s ((q, #[x0, x1, x2, x3, x4, x5, x6, x7, x8], T) :: C) rw w) (u : Value) : QS g gb ob c st bs S w0 s ((q, #[x0, x1, x2, x3, x4, x5, x6, x7, u], T) :: C) rw (w.setCell ⟨q, 8, none⟩ u) := h.set0 8 u
theorem QS.s1_4_0 {a0 : BxI} {C : List BxI} {q : Nat} {T : TypeId} {x0 x1 x2 x3 : Value} (h : QS g gb ob c st bs S w0 s (a0 :: (q, #[x0, x1, x2, x3], T) :: C) rw w) (u : Value) : QS g gb ob c st bs S w0 s (a0 :: (q, #[u, x1, x2, x3], T) :: C) rw (w.setCell ⟨q, 0, none⟩ u) := h.set1 0 u
theorem QS.s1_4_1 {a0 : BxI} {C : List BxI} {q : Nat} {T : TypeId} {x0 x1 x2 x3 : Value} (h : QS g gb ob c st bs S w0 s (a0 :: (q, #[x0, x1, x2, x3], T) :: C) rw w) (u : Value) : QS g gb ob c st bs S w0 s (a0 :: (q, #[x0, u, x2, x3], T) :: C) rw (w.setCell ⟨q, 1, none⟩ u) := h.set1 1 u
theorem QS.s1_4_2 {a0 : BxI} {C : List BxI} {q : Nat} {T : TypeId} {x0 x1 x2 x3 : Value} (h : QS g gb ob c st bs S w0 s (a0 :: (q, #[x0, x1, x2, x3], T) :: C) rw w) (u : Value) : QS g gb ob c st bs S w0 s (a0 :: (q, #[x0, x1, u, x3], T) :: C) rw (w.setCell ⟨q, 2, none⟩ u) := h.set1 2 u
theorem QS.s1_4_3 {a0 : BxI} {C : List BxI} {q : Nat} {T : TypeId} {x0 x1 x2 x3 : Value} (h : QS g gb ob c st bs S w0 s (a0 :: (q, #[x0, x1, x2, x3], T) :: C) rw w) (u : Value) : QS g gb ob c st bs S w0 s (a0 :: (q, #[x0, x1, x2, u], T) :: C) rw (w.setCell ⟨q, 3, none⟩ u) := h.set1 3 u
theorem QS.s1_9_6 {a0 : BxI} {C : List BxI} {q : Nat} {T : TypeId} {x0 x1 x2 x3 x4 x5 x6 x7 x8 : Value} (h : QS g gb ob c st bs S w0 s (a0 :: (q, #[x0, x1, x2, x3, x4, x5, x6, x7, x8], T) :: C) rw w) (u : Value) : QS g gb ob c st bs S w0 s (a0 :: (q, #[x0, x1, x2, x3, x4, x5, u, x7, x8], T) :: C) rw (w.setCell ⟨q, 6, none⟩ u) := h.set1 6 u
theorem QS.s1_9_7 {a0 : BxI} {C : List BxI} {q : Nat} {T : TypeId} {x0 x1 x2 x3 x4 x5 x6 x7 x8 : Value} (h : QS g gb ob c st bs S w0 s (a0 :: (q, #[x0, x1, x2, x3, x4, x5, x6, x7, x8], T) :: C) rw w) (u : Value) : QS g gb ob c st bs S w0 s (a0 :: (q, #[x0, x1, x2, x3, x4, x5, x6, u, x8], T) :: C) rw (w.setCell ⟨q, 7, none⟩ u) := h.set1 7 u
end
theorem qmByte_any {g gb ob c st : Nat} {bs : List UInt8} (s : RS) (w : World) (h : RdQ g gb ob c st bs s w) :
  Calls Tryz.prog 109 #[.pointer (some ⟨g, 0, none⟩), .int .i64 1] w fun e w' => e = .returned (.int .i64 ((byV bs st s).toNat : Int)) ∧ RdQTo g gb ob c st bs (tkS st 1 s) w w' := by
 have h1 := qmNum_any s 1 w h (by omega)
 rw [loN_one, show IntKind.i64.wrap ((byV bs st s).toNat : Int) = ((byV bs st s).toNat : Int) by rw [IntKind.wrap_i64]; have := (byV bs st s).toNat_lt; omega] at h1
 exact h1
theorem qmTwo_any {g gb ob c st : Nat} {bs : List UInt8} (s : RS) (w : World) (h : RdQ g gb ob c st bs s w) :
  Calls Tryz.prog 109 #[.pointer (some ⟨g, 0, none⟩), .int .i64 2] w fun e w' => e = .returned (.int .i64 ((lsN bs st s : Nat) : Int)) ∧ RdQTo g gb ob c st bs (tkS st 2 s) w w' := by
 have h1 := qmNum_any s 2 w h (by omega)
 have hl : lsN bs st s < 65536 := lsN_lt
 rw [show IntKind.i64.wrap ((loN (tkV bs st 2 s) : Nat) : Int) = ((lsN bs st s : Nat) : Int) by unfold lsN at hl ⊢; rw [IntKind.wrap_i64]; omega] at h1
 exact h1
theorem qm8_any {g gb ob c st : Nat} {bs : List UInt8} (s : RS) (w : World) (h : RdQ g gb ob c st bs s w) :
  Calls Tryz.prog 109 #[.pointer (some ⟨g, 0, none⟩), .int .i64 8] w fun e w' => e = .returned (.int .i64 (n8V bs st s)) ∧ RdQTo g gb ob c st bs (n8S st s) w w' := qmNum_any s 8 w h (by omega)
theorem it_end {one : RS → RS} {n k : Nat} {s fin : RS} (h : itS one (n - k) s = fin) (hs : ¬ k < n ∨ s.2 = true) : s = fin := by
 rcases hs with h1 | h1
 ·rw [show n - k = 0 by omega] at h; exact h
 ·rw [itS_bad h1] at h; exact h
theorem it_on {one : RS → RS} {n k a : Nat} {s' fin : RS} (h : itS one (n - k) (a, false) = fin) (hk : k < n) (he : one (a, false) = s') : itS one (n - (k + 1)) s' = fin := by
 rw [← h, ← he, show n - k = (n - (k + 1)) + 1 by omega, itS_more]
end Go.Proofs.YtidkhnfhkofmoaaGreatDoor
