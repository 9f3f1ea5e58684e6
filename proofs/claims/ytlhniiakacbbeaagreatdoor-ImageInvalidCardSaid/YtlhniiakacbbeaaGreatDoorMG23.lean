/-
  Several texts as one.
-/
import Derived.Test.YtlhniiakacbbeaaGreatDoorMG06
import Derived.Lib.AppendStr
import Derived.Test.YtlhniiakacbbeaaGreatDoorMG08
import Derived.Deep.RegionLaw
import Derived.Test.YtlhniiakacbbeaaGreatDoorMG02
import Derived.Test.YtlhniiakacbbeaaGreatDoorCkP
import Derived.SizedLaws
import Derived.Test.YtlhniiakacbbeaaGreatDoorMG14
namespace Go.Proofs.YtlhniiakacbbeaaGreatDoor
open Go.RowKit
set_option linter.unusedVariables false
set_option linter.unusedSimpArgs false
def txtB (l : List ByteArray) : List UInt8 := l.flatMap fun s => u8of (s.size : Int) :: bl s
theorem txtB_snoc (l : List ByteArray) (k : Nat) (hk : k < l.length) : txtB (l.take (k + 1)) = txtB (l.take k) ++ (u8of (l[k].size : Int) :: bl l[k]) := by
 unfold txtB; rw [List.take_succ_eq_append_getElem hk, List.flatMap_append]; simp
theorem WrR.two {g B ga : Nat} {v v1 v2 : Value} {out out2 : List UInt8} {w w3 w4 : World} {o : Obj} (h : WrR g B v out w) (hg : (w.alloc o).grownBy w3 v.ownBlock) (h1 : ∀ b, v1.ownBlock = some b → v.ownBlock = some b ∨ w.heap.size ≤ b) (hg2 : w3.grownBy w4 v1.ownBlock)
  (hown : w4.ownsRow B 5 1 v2 out2.length (out2.map u8c)) (hga : v.ownBlock ≠ some ga) (hgl : ga < w.heap.size) (hgg : ga ≠ g) :
  WrR g B v2 out2 (w4.setCell ⟨g, 0, none⟩ v2) ∧ Frm (fun j => j = g ∨ (B ≤ j ∧ j ≠ ga)) w (w4.setCell ⟨g, 0, none⟩ v2) ∧ Bx g #[v] 124 w4 := by
 have hlt := h.own.lt
 have lo := h.lo
 have hi := h.hi
 have hgl0 := h.bx.lt
 have hs3 : w.heap.size ≤ w3.heap.size := by have := hg.size; rw [World.size_alloc] at this; omega
 have hs4 := hg2.size
 have hk : ∀ k, k < w.heap.size → v.ownBlock ≠ some k → w4.heap[k]? = w.heap[k]? := fun k hk hn =>
  (hg2.block k (by omega) (fun e => by rcases h1 k e.symm with e2 | e2; exact hn e2; omega)).trans ((hg.block k (by rw [World.size_alloc]; omega) (fun e => hn e.symm)).trans (((Below.refl w.heap.size w).alloc (Nat.le_refl _) o).block k hk))
 have hoth : ∀ k, k ≠ g → (w4.setCell ⟨g, 0, none⟩ v2).heap[k]? = w4.heap[k]? := fun k hk => heap_setCell_other w4 ⟨g, 0, none⟩ k v2 (fun e => hk (by simpa using e))
 have hng : v.ownBlock ≠ some g := h.lo
 have hx4 : Bx g #[v] 124 w4 := (hk g hgl0 hng).trans h.bx
 refine ⟨⟨hx4.set 0 v2, ?_, by simp; omega⟩, ⟨hg2.os.trans hg.os, hg2.tape.trans hg.tape, hg2.output.trans hg.output, by simp; omega, fun k hkl hn => ?_⟩, hx4⟩
 ·obtain ⟨hl, h2 | ⟨b, cap, cur, hv, hb, hh, r⟩⟩ := hown
  ·exact ⟨hl, .inl h2⟩
  ·exact ⟨hl, .inr ⟨b, cap, cur, hv, hb, (hoth b (bx_ne hx4 hh)).trans hh, r⟩⟩
 ·refine (hoth k (fun e => hn (.inl e))).trans (hk k hkl (fun e => ?_))
  have := (hlt _ e).1
  exact hn (.inr ⟨this, fun e2 => hga (e2 ▸ e)⟩)
theorem WrR.below {g B : Nat} {v : Value} {out : List UInt8} {w w' : World} (h : WrR g B v out w) (hb : Below w.heap.size w w') : WrR g B v out w' :=
 ⟨h.bx.via hb, own_below h.own hb, Nat.le_trans h.hi hb.size⟩
theorem WrR.beside {g1 B1 g2 B2 : Nat} {v1 v2 v2' : Value} {out1 out2 : List UInt8} {w w' : World} (h : WrR g1 B1 v1 out1 w) (k : WrTo g2 B2 v2 out2 w v2' w') (hg : g1 ≠ g2) (h1 : v2.ownBlock ≠ some g1) (hd : ∀ b, v1.ownBlock = some b → v2.ownBlock ≠ some b ∧ b ≠ g2) : WrR g1 B1 v1 out1 w' := by
 refine ⟨(k.f.block g1 h.bx.lt (fun e => by rcases e with e | e; exact hg e; exact h1 e)).trans h.bx, ?_, Nat.le_trans h.hi k.f.size⟩
 obtain ⟨hl, h2 | ⟨b, cap, cur, hv, hb, hh, r⟩⟩ := h.own
 ·exact ⟨hl, .inl h2⟩
 ·refine ⟨hl, .inr ⟨b, cap, cur, hv, hb, (k.f.block b (heap_lt hh) (fun e => ?_)).trans hh, r⟩⟩
  obtain ⟨e1, e2⟩ := hd b (by rw [hv]; rfl)
  rcases e with e | e
  ·exact e2 e
  ·exact e1 e
theorem WrTo.of_below {g B : Nat} {v v' : Value} {out : List UInt8} {w w1 w' : World} (hb : Below w.heap.size w w1) (h : WrTo g B v out w1 v' w') : WrTo g B v out w v' w' :=
 ⟨h.r, (Frm.of_below hb).trans h.f, fun b e => by rcases h.o b e with h1 | h1; exact .inl h1; exact .inr (Nat.le_trans hb.size h1)⟩
theorem sep_to {g1 B1 g2 : Nat} {v1 v2 va : Value} {out1 : List UInt8} {w : World} (h1 : WrR g1 B1 v1 out1 w) (hgo : v2.ownBlock ≠ some g1) (hd : ∀ b, v1.ownBlock = some b → v2.ownBlock ≠ some b ∧ b ≠ g2) (o : ∀ b, va.ownBlock = some b → v2.ownBlock = some b ∨ w.heap.size ≤ b) :
  va.ownBlock ≠ some g1 ∧ ∀ b, v1.ownBlock = some b → va.ownBlock ≠ some b ∧ b ≠ g2 := by
 have hl := h1.bx.lt
 refine ⟨fun e => ?_, fun b hb => ⟨fun e => ?_, (hd b hb).2⟩⟩
 ·rcases o _ e with h | h
  ·exact hgo h
  ·omega
 ·have := (h1.own.lt b hb).2
  rcases o _ e with h | h
  ·exact (hd b hb).1 h
  ·omega
def secB (tag : UInt8) (out : List UInt8) : List UInt8 := ([tag] ++ lowB (out.length : Int) 4) ++ out
set_option maxRecDepth 100000 in
set_option maxHeartbeats 8000000 in
theorem wsectionG_any {g1 B1 g2 B2 : Nat} {v1 v2 : Value} {out1 out2 : List UInt8} (tag : UInt8) (w : World) (h1 : WrR g1 B1 v1 out1 w) (hby : ∀ (ga : Nat) (w0 : World), Below w.heap.size w w0 → BsA w0 ga 0 [tag] → Calls Tryz.prog 68 #[.pointer (some ⟨g2, 0, none⟩), .slice (some ⟨ga, 0, none⟩) 1 1] w0 fun e w' => e = .returned (.tuple #[]) ∧ ∃ v', WrTo g2 B2 v2 (out2 ++ [tag]) w0 v' w') (hg : g1 ≠ g2) (hgo : v2.ownBlock ≠ some g1) (hd : ∀ b, v1.ownBlock = some b → v2.ownBlock ≠ some b ∧ b ≠ g2) (h0 : 0 < out1.length) (hN : out1.length + out2.length ≤ 1000000) :
  Calls Tryz.prog 66 #[.pointer (some ⟨g1, 0, none⟩), .pointer (some ⟨g2, 0, none⟩), .int .u8 (tag.toNat : Int)] w fun e w' => e = .returned (.tuple #[]) ∧ ∃ v2', WrTo g2 B2 v2 (out2 ++ secB tag out1) w v2' w' := by
 obtain ⟨i0, hi, hz0, hz1, hz2⟩ := info_parts infoU8b
 obtain ⟨T, hT⟩ : ∃ T : Nat, tag.toNat = T := ⟨_, rfl⟩
 have HT := Lib.hid hT
 obtain ⟨w0, hw0⟩ : ∃ W, w.alloc (.cells #[.int .u8 (T : Int)] 5) = W := ⟨_, rfl⟩
 have hb0 : Below w.heap.size w w0 := by rw [← hw0]; exact (Below.refl _ _).alloc (Nat.le_refl _) _
 have A0 : BsA w0 w.heap.size 0 [tag] := by
  have hx : Bx w.heap.size #[.int .u8 (T : Int)] 5 w0 := by rw [← hw0]; exact Bx.last _ _ _
  refine ⟨hx.lt, fun j b hb => ?_⟩
  cases j with
  | zero =>
   simp at hb
   subst hb
   have := hx.cell 0 (u := .int .u8 (T : Int)) rfl
   unfold u8c
   rw [hT]
   exact this
  | succ j => simp at hb
 have hbs := hby w.heap.size w0 hb0 A0
 have HBS := Lib.hid hbs
 have H1W := Lib.hid h1
 have HB0 := Lib.hid hb0
 have H1 := Lib.hid (h1.below hb0)
 have HW0 := Lib.hid hw0
 obtain ⟨m, hm⟩ : ∃ m, out1.length = m := ⟨_, rfl⟩
 have HM := Lib.hid hm
 rw [hT]
 rw [hm] at h0 hN
 have HD := Lib.hid hd
 have HGO := Lib.hid hgo
 clear h1 hby hb0 A0 hbs hw0 hT hm hd hgo
 go_enter Tryz.func66, Tryz.ntmps66
 go_wp2_with fail
 rw [HW0.out]
 clear HW0
 refine HBS.out.mono ?_
 rintro e w1 ⟨rfl, va, hta⟩
 have T1 : Hid (WrTo g2 B2 v2 (out2 ++ [tag]) w va w1) := hta.of_below HB0.out
 have S1 : Hid (WrR g1 B1 v1 out1 w1) := H1.out.beside hta hg HGO.out HD.out
 clear HBS hta H1 HB0
 obtain ⟨A1, n1, c1, rfl⟩ := own_form S1.out.own
 obtain rfl : n1 = m := (own_len S1.out.own).trans HM.out
 have k1 := S1.out.bx.cell 0 (u := .slice A1 n1 c1) rfl
 have k1l := S1.out.bx.lt
 have hlw := wlow_any (g := g2) (B := B2) (n1 : Int) 4 (by omega) w1 T1.out.r (by simp; omega)
 have HLW := Lib.hid hlw
 clear hlw
 go_wp2_with fail
 refine HLW.out.mono ?_
 rintro e w2 ⟨rfl, vb, htb⟩
 have T2 := Lib.hid (T1.out.then_ htb)
 have S2 : Hid (WrR g1 B1 (.slice A1 n1 c1) out1 w2) := S1.out.beside htb hg (sep_to H1W.out HGO.out HD.out T1.out.o).1 (sep_to H1W.out HGO.out HD.out T1.out.o).2
 clear HLW htb S1 T1 k1 k1l
 have k1 := S2.out.bx.cell 0 (u := .slice A1 n1 c1) rfl
 have k1l := S2.out.bx.lt
 obtain ⟨g3, o3, hA, hcs⟩ : ∃ g3 o3, A1 = some ⟨g3, o3, none⟩ ∧ ∀ W, Below w2.heap.size w2 W → ∀ j u, (out1.map u8c)[j]? = some u → W.cell? ((⟨g3, o3, none⟩ : Addr).add j) = some u := by
  obtain ⟨_, A', c', hv, hc', hm', hx⟩ := Rd.of_own S2.out.own
  injection hv with e1 e2 e3
  obtain ⟨g3, o3, hA, hgl, hcell⟩ := hx (by rw [HM.out]; exact h0)
  refine ⟨g3, o3, e1.trans hA, fun W hW j u hu => ?_⟩
  have hadd : (⟨g3, o3, none⟩ : Addr).add j = ⟨g3, o3 + j, none⟩ := by unfold Addr.add; split <;> simp_all
  rw [hadd]
  exact (hW.cell (p := ⟨g3, o3 + j, none⟩) hgl).trans (hcell j u hu)
 subst hA
 have HCS := Lib.hid hcs
 obtain ⟨A2, n2, c2, rfl⟩ := own_form T2.out.r.own
 have kv := T2.out.r.bx.cell 0 (u := .slice A2 n2 c2) rfl
 have kf := T2.out.r.bx.free 0
 have kl := T2.out.r.bx.lt
 have hown := T2.out.r.own
 have hlt0 := hown.lt
 have hBz := T2.out.r.hi
 have hBlo := T2.out.r.lo
 have HL2 : Hid ((out1.map u8c).length = n1 * 1) := by unfold Hid; rw [List.length_map, HM.out]; omega
 have HONE := Lib.hid (u8cells_one out1)
 have HLEN : Hid ((out2 ++ [tag] ++ lowB (n1 : Int) 4).length = out2.length + 5) := by unfold Hid; rw [List.length_append, List.length_append, lowB_len]; rfl
 rw [HLEN.out] at hown
 have HOUT : Hid (out2 ++ secB tag out1 = (out2 ++ [tag] ++ lowB (n1 : Int) 4) ++ out1) := by unfold Hid secB; rw [HM.out]; simp
 obtain ⟨L, hL⟩ : ∃ l, (out2 ++ [tag] ++ lowB (n1 : Int) 4).map u8c = l := ⟨_, rfl⟩
 rw [hL] at hown
 have HLL := Lib.hid hL
 have nbw : (Value.slice A2 n2 c2).ownBlock ≠ some g2 := T2.out.r.lo
 have NBW := Lib.hid nbw
 obtain ⟨w3', hw3'⟩ : ∃ W, w2.drew = W := ⟨_, rfl⟩
 have hown2 : w2.drew.ownsRow B2 5 1 (.slice A2 n2 c2) (out2.length + 5) L := hown.drew
 have HX := Lib.hid (hcs w2.drew ((Below.refl _ _).drew))
 have hm6 : n1 ≤ 1000000 := by omega
 clear hcs hL hown hw3'
 go_upto_region 2 with fail
 go_region_law (
  (refine step_append_lies _ (by rfl) _ _ _ (by rfl) B2 5 i0 (.int .u8 0) 1 1 Tryz.underlying68 hi hz0 hz1 hz2 rfl (by omega) (.slice A2 n2 c2) (out2.length + 5) L (by rfl) hown2 ⟨g3, o3, none⟩ n1 c1 (out1.map u8c) (by rfl) HL2.out HX.out HONE.out h0 (by unfold maxLen; omega) (by omega) hBz w2.heap.size (by rfl) ?_; intro gg cap w3 hown3 hgrow hat hlt3; have kv3 : w3.cell? ⟨g2, 0, none⟩ = some (.slice A2 n2 c2) := (hgrow.cell_far ⟨g2, 0, none⟩ kl (Ne.symm NBW.out)).trans kv; have kf3 : w3.frozen? ⟨g2, 0, none⟩ = false := (hgrow.frozen_far ⟨g2, 0, none⟩ kl (Ne.symm NBW.out)).trans kf; have kl3 : g2 < w3.heap.size := Nat.lt_of_lt_of_le kl hgrow.size))
 all_goals
  have T3 : WrTo g2 B2 (.slice A2 n2 c2) ((out2 ++ [tag] ++ lowB (n1 : Int) 4) ++ out1) w2.drew (.slice (some ⟨gg, 0, none⟩) (out2.length + 5 + n1) cap) (w3.setCell ⟨g2, 0, none⟩ (.slice (some ⟨gg, 0, none⟩) (out2.length + 5 + n1) cap)) := by
   refine WrR.push2 (T2.out.r.below ((Below.refl _ _).drew)) ?_ hgrow ?_
   ·rw [HLEN.out, HM.out, HLL.out]
    exact hown3
   ·intro b hb
    have e : gg = b := by simpa [Value.ownBlock] using hb
    subst e
    rcases hat with h1 | h1
    ·exact .inl h1
    ·exact .inr (by rw [h1]; exact Nat.le_refl _)
  have T4 := Lib.hid (T2.out.then_ (T3.of_below ((Below.refl _ _).drew)))
  clear T3 hown3 hgrow hat hlt3 hown2 T2 S2 kv kf k1 k1l hlt0 nbw
  go_wp2
  go_end0
  rw [HOUT.out]
  exact ⟨rfl, _, T4.out⟩
theorem wsection_any {g1 B1 g2 B2 : Nat} {v1 v2 : Value} {out1 out2 : List UInt8} (tag : UInt8) (w : World) (h1 : WrR g1 B1 v1 out1 w) (h2 : WrR g2 B2 v2 out2 w) (hg : g1 ≠ g2) (hgo : v2.ownBlock ≠ some g1) (hd : ∀ b, v1.ownBlock = some b → v2.ownBlock ≠ some b ∧ b ≠ g2) (h0 : 0 < out1.length) (hN : out1.length + out2.length ≤ 1000000) :
  Calls Tryz.prog 66 #[.pointer (some ⟨g1, 0, none⟩), .pointer (some ⟨g2, 0, none⟩), .int .u8 (tag.toNat : Int)] w fun e w' => e = .returned (.tuple #[]) ∧ ∃ v2', WrTo g2 B2 v2 (out2 ++ secB tag out1) w v2' w' :=
 wsectionG_any tag w h1 (fun ga w0 hb ha => wbytes_any (g := g2) (B := B2) (v := v2) (out := out2) ga 0 1 [tag] w0 (h2.below hb) ha (by simp) (by simp; omega)) hg hgo hd h0 hN
section
variable {P : Program} (w : World)
theorem run_append_full2 (base : Nat) (t ty e : TypeId) (i : TypeInfo) (z : Value) (size bytes : Nat) (ht : P.underlying t = some (.slice e)) (hi : P.info? e = some i) (hz : i.zero = some z)
  (hsize : i.size = size) (hby : i.bytes = bytes) (hzs : z.cells.size = size)
  (b : Addr) (n : Nat) (xs : List Value) (hxl : xs.length = n * size) (hxs : ∀ j u, xs[j]? = some u → w.cell? (b.add j) = some u)
  (a : Addr) (m c : Nat) (news : List Value) (hl : news.length = m * size) (hnews : ∀ j u, news[j]? = some u → w.cell? (a.add j) = some u) (hm : 0 < m)
  (h63 : n + m ≤ maxLen) (hbytes : (n + m) * bytes ≤ 140737488355328) (hbase : base ≤ w.heap.size) :
  ∃ v' w', (Builtin.append_ #[t, t] ty #[.slice (some b) n n, .slice (some a) m c]).run P w = .ok v' w' ∧ w'.ownsRow base e size v' (n + m) (xs ++ news) ∧ w.grownBy w' none ∧ v'.ownBlock = some w.heap.size := by
 subst hsize
 subst hby
 have hsmall : n + m ≤ 9223372036854775807 := by simp only [maxLen] at h63; omega
 have hlen : (xs ++ news).length = (n + m) * i.size := by rw [List.length_append, hxl, hl, Nat.add_mul]
 have hr := run_append_grow (P := P) w t ty e i z ht hi hz b n n xs hxl hxs a m c news hl hnews (by omega) (by omega) (growslice_fits (by omega) hbytes)
 have hge := grownCap_ge w (n + m) n e
 have hcm : grownCap w (n + m) n e ≤ maxLen := grownCap_le_maxLen w (n + m) n e h63
 refine ⟨_, _, hr, ⟨hlen, .inr ⟨w.heap.size, _, _, rfl, hbase, heap_alloc_new w.drew _, hge, hcm, ?_, ?_⟩⟩, ⟨rfl, rfl, rfl, by simp, fun k hk _ => Below.heap_alloc w.drew _ k hk⟩, rfl⟩
 ·simp only [Array.size_append, List.size_toArray, size_zeroCells, hzs, hxl, hl, ← Nat.add_mul]
  congr 1
  omega
 ·simp only [Array.toList_append, List.append_assoc]
  rw [← List.append_assoc, ← hlen]
  exact List.take_left
theorem wpList_append_full {ops : Array Oper} {rest : List Oper} {o : Oper} {a : Act} {Q : Exit → Act → World → Prop} (hgd : o.guard = none) (s x : Operand) (t : TypeId)
  (ho : o.op = .call { callee := .builtin .append, args := #[s, x], argTypes := #[t, t] })
  (base : Nat) (e : TypeId) (i : TypeInfo) (z : Value) (size bytes : Nat) (ht : P.underlying t = some (.slice e)) (hi : P.info? e = some i) (hz : i.zero = some z)
  (hsize : i.size = size) (hby : i.bytes = bytes) (hzs : z.cells.size = size)
  (b : Addr) (n : Nat) (xs : List Value) (hs : a.eval s = .slice (some b) n n) (hxl : xs.length = n * size) (hxs : ∀ j u, xs[j]? = some u → w.cell? (b.add j) = some u)
  (ad : Addr) (m c : Nat) (news : List Value) (hx : a.eval x = .slice (some ad) m c) (hl : news.length = m * size) (hnews : ∀ j u, news[j]? = some u → w.cell? (ad.add j) = some u) (hm : 0 < m)
  (h63 : n + m ≤ maxLen) (hbytes : (n + m) * bytes ≤ 140737488355328) (hbase : base ≤ w.heap.size)
  (h : ∀ v' w', w'.ownsRow base e size v' (n + m) (xs ++ news) → w.grownBy w' none → v'.ownBlock = some w.heap.size → wpList P ops Q rest (a.put o.dst v') w') : wpList P ops Q (o :: rest) a w :=
 wpList_plain hgd fun _ hK => by
  obtain ⟨v', w', hr, h2, h3, h4⟩ := run_append_full2 (P := P) w base t o.type e i z size bytes ht hi hz hsize hby hzs b n xs hxl hxs ad m c news hl hnews hm h63 hbytes hbase
  unfold Oper.wp execOp
  simp only [ho, resolve, invoke, builtin, Sem.run_bind, Sem.run_pure, Result.andThen_ok, List.map_toArray, List.map_cons, List.map_nil, hs, hx, hr]
  exact hK _ _ (h v' w' h2 h3 h4)
end
structure WrF (g : Nat) (v : Value) (out : List UInt8) (w : World) : Prop where
 bx : Bx g #[v] 124 w
 v : ∃ b, v = .slice (some ⟨b, 0, none⟩) out.length out.length ∧ BsA w b 0 out
theorem WrF.below {g : Nat} {v : Value} {out : List UInt8} {w w' : World} (h : WrF g v out w) (hb : Below w.heap.size w w') : WrF g v out w' := by
 obtain ⟨hx, b, hv, hbs⟩ := h
 exact ⟨hx.via hb, b, hv, hbs.below hb⟩
set_option maxRecDepth 100000 in
set_option maxHeartbeats 8000000 in
theorem wbytesF_any {g : Nat} {v : Value} {out : List UInt8} (B ga oa ca : Nat) (add : List UInt8) (w : World) (h : WrF g v out w) (ha : BsA w ga oa add) (h0 : 0 < add.length) (hN : out.length + add.length ≤ 100000000) (hB : B ≤ w.heap.size) :
  Calls Tryz.prog 68 #[.pointer (some ⟨g, 0, none⟩), .slice (some ⟨ga, oa, none⟩) add.length ca] w fun e w' => e = .returned (.tuple #[]) ∧ ∃ v', WrTo g B v (out ++ add) w v' w' := by
 obtain ⟨i0, hi, hz0, hz1, hz2⟩ := info_parts infoU8b
 obtain ⟨hx, b, rfl, hbs⟩ := h
 have k0 := hx.cell 0 (u := .slice (some ⟨b, 0, none⟩) out.length out.length) rfl
 have f0 := hx.free 0
 have gl := hx.lt
 have HBX := Lib.hid hx
 have HX0 := Lib.hid (hbs.news (Below.refl _ _))
 have HX := Lib.hid (ha.news (Below.refl _ _))
 obtain ⟨m, hm⟩ : ∃ m, out.length = m := ⟨_, rfl⟩
 obtain ⟨p, hp⟩ : ∃ p, add.length = p := ⟨_, rfl⟩
 have HL1 : Hid ((out.map u8c).length = m * 1) := by unfold Hid; rw [List.length_map, hm]; omega
 have HL2 : Hid ((add.map u8c).length = p * 1) := by unfold Hid; rw [List.length_map, hp]; omega
 rw [hm] at hN k0 ⊢
 rw [hp] at h0 hN ⊢
 have HM := Lib.hid hm
 have HP := Lib.hid hp
 have hal := ha.1
 clear ha hm hp hx hbs
 go_enter Tryz.func68, Tryz.ntmps68
 go_wp2_with (at_builtin; (refine wpList_append_full _ rfl _ _ 68 rfl B 5 i0 (.int .u8 0) 1 1 Tryz.underlying68 hi hz0 hz1 hz2 rfl ⟨b, 0, none⟩ m (out.map u8c) rfl HL1.out HX0.out ⟨ga, oa, none⟩ p ca (add.map u8c) rfl HL2.out HX.out h0 ?c3 ?c4 hB ?_))
 case c3 => unfold maxLen; omega
 case c4 => omega
 intro v' w3 hown3 hgrow hob
 obtain ⟨A', n', c', rfl⟩ := own_form hown3
 have hb3 := hgrow.block g gl (by simp)
 have kg : w3.cell? ⟨g, 0, none⟩ = some (.slice (some ⟨b, 0, none⟩) m m) := (World.cell?_of_block (w := w) (a := ⟨g, 0, none⟩) hb3).trans k0
 have hx3 : Bx g #[.slice (some ⟨b, 0, none⟩) out.length out.length] 124 w3 := hb3.trans HBX.out
 have fg := hx3.free 0
 have gl3 := hx3.lt
 have R : Hid (WrTo g B (.slice (some ⟨b, 0, none⟩) out.length out.length) (out ++ add) w (.slice A' n' c') (w3.setCell ⟨g, 0, none⟩ (.slice A' n' c'))) := by
  have hoth : ∀ k, k ≠ g → (w3.setCell ⟨g, 0, none⟩ (.slice A' n' c')).heap[k]? = w3.heap[k]? := fun k hk => heap_setCell_other w3 ⟨g, 0, none⟩ k _ (fun e => hk (by simpa using e))
  have hown4 : w3.ownsRow B 5 1 (.slice A' n' c') (out ++ add).length ((out ++ add).map u8c) := by rw [List.length_append, HM.out, HP.out, List.map_append]; exact hown3
  refine ⟨⟨hx3.set 0 _, ?_, by simp; have := hgrow.size; omega⟩, ⟨hgrow.os, hgrow.tape, hgrow.output, by simpa using hgrow.size, fun k hkl hn => ?_⟩, fun k hk => ?_⟩
  ·obtain ⟨hl, h2 | ⟨q, cap, cur, hv, hb, hh, r⟩⟩ := hown4
   ·exact ⟨hl, .inl h2⟩
   ·exact ⟨hl, .inr ⟨q, cap, cur, hv, hb, (hoth q (bx_ne hx3 hh)).trans hh, r⟩⟩
  ·exact (hoth k (fun e => hn (.inl e))).trans (hgrow.block k hkl (by simp))
  ·rw [hob] at hk; injection hk with hk; exact .inr (by omega)
 clear hown3 hgrow hob k0 f0 hb3 hx3
 go_wp2
 go_end0
 rw [HM.out] at R
 exact ⟨rfl, _, R.out⟩
theorem wsectionF_any {g1 B1 g2 B2 : Nat} {v1 v2 : Value} {out1 out2 : List UInt8} (tag : UInt8) (w : World) (h1 : WrR g1 B1 v1 out1 w) (h2 : WrF g2 v2 out2 w) (hg : g1 ≠ g2) (hgo : v2.ownBlock ≠ some g1) (hd : ∀ b, v1.ownBlock = some b → v2.ownBlock ≠ some b ∧ b ≠ g2) (h0 : 0 < out1.length) (hN : out1.length + out2.length ≤ 1000000) (hB : B2 ≤ w.heap.size) :
  Calls Tryz.prog 66 #[.pointer (some ⟨g1, 0, none⟩), .pointer (some ⟨g2, 0, none⟩), .int .u8 (tag.toNat : Int)] w fun e w' => e = .returned (.tuple #[]) ∧ ∃ v2', WrTo g2 B2 v2 (out2 ++ secB tag out1) w v2' w' :=
 wsectionG_any tag w h1 (fun ga w0 hb ha => wbytesF_any (g := g2) (v := v2) (out := out2) B2 ga 0 1 [tag] w0 (h2.below hb) ha (by simp) (by simp; omega) (Nat.le_trans hB hb.size)) hg hgo hd h0 hN
theorem shN_nat (n : Nat) : ∀ j, shN j (n : Int) = ((n / 256 ^ j : Nat) : Int)
 | 0 => by simp [shN]
 | j + 1 => by
  show shN j (n : Int) / 256 = _
  rw [shN_nat n j, Nat.pow_succ, ← Nat.div_div_eq_div_mul]
  omega
theorem loN_lowB (n : Nat) : ∀ k : Nat, loN (lowB (n : Int) k) = n % 256 ^ k
 | 0 => by simp [lowB, loN, Nat.mod_one]
 | k + 1 => by
  rw [lowB_snoc, loN_snoc, loN_lowB n k, lowB_len]
  have h1 := u8of_nat (shN k (n : Int))
  rw [shN_nat] at h1 ⊢
  have h2 : (u8of ((n / 256 ^ k : Nat) : Int)).toNat = n / 256 ^ k % 256 := by omega
  rw [h2, Nat.pow_succ, Nat.mod_mul]
  rw [Nat.mul_comm]
def secsB : Nat → List (List UInt8) → List UInt8
 | _, [] => []
 | t, c :: cs => secB (UInt8.ofNat t) c ++ secsB (t + 1) cs
theorem secB_len (t : UInt8) (c : List UInt8) : (secB t c).length = 5 + c.length := by
 unfold secB; rw [List.length_append, List.length_append, lowB_len]; rfl
def txtL (l : List (List UInt8)) : List UInt8 := l.flatMap fun s => u8of (s.length : Int) :: s
theorem txtB_map (l : List (List UInt8)) : txtB (l.map sb) = txtL l := by
 unfold txtB txtL
 rw [List.flatMap_map]
 first
  | rfl
  | (congr 1; funext s; rw [bl_sb]; rfl)
  | (congr 1; funext s; simp [bl_sb])
def u8b (n : Nat) : UInt8 := u8of (n : Int)
def hdB (h : ImHd) : List UInt8 := txtL [h.nm] ++ numB [h.cy, h.fr, h.tu, h.la, h.lo]
def fxB (f : Fx) : List UInt8 := txtL [f.id, f.rg] ++ ([u8b f.kd] ++ numB [f.lat, f.lon, f.el, f.ra])
def ptB (p : Pt) : List UInt8 := txtL [p.ref] ++ (numB [p.lo, p.hi] ++ [u8b p.dir])
def awB (a : AwD) : List UInt8 := txtL [a.nm] ++ (lowB (a.ps.length : Int) 2 ++ a.ps.flatMap ptB)
def lgB (l : Lg) : List UInt8 := [u8b l.ty] ++ (txtL [l.fi, l.ce] ++ ([u8b l.tn, if l.ov then 1 else 0] ++ numB [l.cr, l.ds, l.ra, l.th, l.lo, l.hi, l.sp, l.rn]))
def paB (x : Pa) : List UInt8 := [u8b x.kd] ++ (txtL [x.nm] ++ (lowB (x.lg.length : Int) 2 ++ x.lg.flatMap lgB))
def prB (p : Prc) : List UInt8 := txtL [p.ap, p.nm] ++ ([u8b p.kd] ++ (lowB (p.pa.length : Int) 2 ++ p.pa.flatMap paB))
def conB (d : DbD) : List (List UInt8) :=
 [hdB d.hd, lowB (d.fx.length : Int) 2 ++ d.fx.flatMap fxB, lowB (d.aw.length : Int) 2 ++ d.aw.flatMap awB, lowB (d.pr.length : Int) 2 ++ d.pr.flatMap prB]
def dbB (d : DbD) : List UInt8 := magicL ++ secsB 1 (conB d)
def fewA (a : AwD) : AwD := { a with ps := a.ps.take 8 }
def fewP (x : Pa) : Pa := { x with lg := x.lg.take 6 }
def fewR (p : Prc) : Prc := { p with pa := (p.pa.take 5).map fewP }
def fewD (d : DbD) : DbD := { d with fx := d.fx.take 24, aw := (d.aw.take 6).map fewA, pr := (d.pr.take 4).map fewR }
end Go.Proofs.YtlhniiakacbbeaaGreatDoor
namespace Go.Proofs.YtlhniiakacbbeaaGreatDoor
open Go.ChangeShapes Go.WideShapes Go.Deep Go.RowKit
set_option linter.unusedVariables false
set_option linter.unusedSimpArgs false
section
variable {H : Type} {enc : TypeId × Value → H} {w : World} {base : Nat} {held : Bool}
def FixDat (l : List Fx) (d : DataW H) : Prop := l = [] ∨ ∃ es sp : List (DataW H), d = .slice es sp ∧ es.length = l.length ∧ ∀ i (h : i < l.length), ∃ r : List (DataW H), es[i]? = some (.agg (.lit (.string l[i].id) :: .lit (.string l[i].rg) :: r))
set_option maxRecDepth 100000 in
theorem open_fixS {fuel : Nat} {cs : List Value} {x : DataW H × List MemPlace} (h : DataW.trod enc Tryz.prog w base (fun _ => true) held fuel 38 cs = some x) :
  ∃ (f : Fx) (r : List (DataW H)), cs = fxc f ∧ FxOk f ∧ x.1 = .agg (.lit (.string f.id) :: .lit (.string f.rg) :: r) := by
 obtain ⟨f, rfl, hok⟩ := open_fixD h
 obtain ⟨ys, n, _, hx, hl, hyl, hf⟩ := DataW.trod_struct Tryz.underlying38 h
 have h0 : DataW.trod enc Tryz.prog w base (fun _ => true) held n 9 (((fxc f).drop 0).take (Tryz.prog.cellsOf 9)) = ys[0]? := hf 0 _ rfl
 have h1 : DataW.trod enc Tryz.prog w base (fun _ => true) held n 9 (((fxc f).drop 1).take (Tryz.prog.cellsOf 9)) = ys[1]? := hf 1 _ rfl
 rw [db_cString] at h0 h1
 match ys, hyl with
 | [z0, z1, z2, z3, z4, z5], _ =>
  obtain ⟨s, e0, hz0, _⟩ := DataW.trod_string Tryz.underlying9 (show DataW.trod enc Tryz.prog w base (fun _ => true) held n 9 [.string (sb f.id)] = some z0 from h0)
  obtain ⟨t, e1, hz1, _⟩ := DataW.trod_string Tryz.underlying9 (show DataW.trod enc Tryz.prog w base (fun _ => true) held n 9 [.string (sb f.rg)] = some z1 from h1)
  obtain rfl : sb f.id = s := by simpa using e0
  obtain rfl : sb f.rg = t := by simpa using e1
  refine ⟨f, [z2.1, z3.1, z4.1, z5.1], rfl, hok, ?_⟩
  rw [hx, hz0, hz1]
  show DataW.agg [.lit (.string (bl (sb f.id))), .lit (.string (bl (sb f.rg))), z2.1, z3.1, z4.1, z5.1] = _
  rw [bl_sb, bl_sb]
theorem weights_all_mem {P : Program} {e : TypeId} : ∀ {ds : List (DataW H)} {i : Nat} {d : DataW H}, ds[i]? = some d → ∀ n ∈ d.weights P e, n ∈ DataW.weightsAll P e ds
 | [], i, d, h, n, _ => by simp at h
 | d' :: ds, 0, d, h, n, hn => by
  simp only [List.getElem?_cons_zero, Option.some.injEq] at h
  subst h
  rw [DataW.weightsAll]
  exact List.mem_append_left _ hn
 | d' :: ds, i + 1, d, h, n, hn => by
  simp only [List.getElem?_cons_succ] at h
  rw [DataW.weightsAll]
  exact List.mem_append_right _ (weights_all_mem h n hn)
set_option maxRecDepth 100000 in
theorem sized_db {ts : List TypeId} {ds : List (DataW H)} {d0 d1 d2 d3 : DataW H} {l : List Fx} (h : (DataW.weightsEach Tryz.prog ts ds).all (· ≤ reachBytes) = true) {j : Nat} (ht : ts[j]? = some 30) (hd : ds[j]? = some (.agg [d0, d1, d2, d3]))
  (hl : FixDat l d1) : SzL l := by
 have hrb : reachBytes = 140737488351232 := by decide
 rcases hl with rfl | ⟨es, sp, rfl, hlen, hes⟩
 ·intro f hf; cases hf
 ·intro f hf
  obtain ⟨i, hi, rfl⟩ := List.getElem_of_mem hf
  obtain ⟨r, he⟩ := hes i hi
  have key : ∀ n : Nat, n ∈ DataW.weights Tryz.prog 38 (.agg (.lit (.string l[i].id) :: .lit (.string l[i].rg) :: r) : DataW H) → n ≤ 140737488351232 := fun n hn => by
   have hmem : n ∈ DataW.weightsEach Tryz.prog ts ds := by
    refine DataW.weights_mem_each ht hd _ ?_
    rw [DataW.weights, Tryz.underlying30]
    show _ ∈ DataW.weightsEach Tryz.prog [25, 26, 27, 28] [d0, .slice es sp, d2, d3]
    refine DataW.weights_mem_each (j := 1) rfl rfl _ ?_
    rw [DataW.weights, Tryz.underlying26]
    exact List.mem_cons_of_mem _ (List.mem_append_left _ (weights_all_mem he n hn))
   have h2 := of_decide_eq_true (List.all_eq_true.1 h _ hmem)
   omega
  rw [DataW.weights, Tryz.underlying38] at key
  have k0 := key l[i].id.length (by
   show _ ∈ DataW.weightsEach Tryz.prog [9, 9, 36, 23, 2, 2] (.lit (.string l[i].id) :: .lit (.string l[i].rg) :: r)
   exact DataW.weights_mem_each (j := 0) rfl rfl _ (by rw [DataW.weights]; exact List.mem_cons_self ..))
  have k1 := key l[i].rg.length (by
   show _ ∈ DataW.weightsEach Tryz.prog [9, 9, 36, 23, 2, 2] (.lit (.string l[i].id) :: .lit (.string l[i].rg) :: r)
   exact DataW.weights_mem_each (j := 1) rfl rfl _ (by rw [DataW.weights]; exact List.mem_cons_self ..))
  omega
theorem fewD_sz {D : DbD} (h : SzL D.fx) : SzD (fewD D) := by
 refine ⟨h.take 24, fun p hp => ?_⟩
 obtain ⟨q, hq, rfl⟩ := List.mem_map.1 hp
 refine ⟨?_, fun x hx => ?_⟩
 ·show ((q.pa.take 5).map fewP).length ≤ 1000000
  rw [List.length_map, List.length_take]; omega
 ·obtain ⟨y, hy, rfl⟩ := List.mem_map.1 hx
  show (y.lg.take 6).length ≤ 1000000
  rw [List.length_take]; omega
end
end Go.Proofs.YtlhniiakacbbeaaGreatDoor
namespace Go.Proofs.YtlhniiakacbbeaaGreatDoor
open Go.RowKit
set_option linter.unusedVariables false
set_option linter.unusedSimpArgs false
def I64 (n : Int) : Prop := -9223372036854775808 ≤ n ∧ n ≤ 9223372036854775807
structure LgB (g : Lg) : Prop where
 fi : g.fi.length ≤ 255
 ce : g.ce.length ≤ 255
 ty : g.ty < 256
 tn : g.tn < 256
 cr : I64 g.cr
 ds : I64 g.ds
 ra : I64 g.ra
 th : I64 g.th
 lo : I64 g.lo
 hi : I64 g.hi
 sp : I64 g.sp
 rn : I64 g.rn
structure PaB (x : Pa) : Prop where
 nm : x.nm.length ≤ 255
 kd : x.kd < 256
 n : x.lg.length < 65536
 lg : ∀ g ∈ x.lg, LgB g
structure PrB (p : Prc) : Prop where
 ap : p.ap.length ≤ 255
 nm : p.nm.length ≤ 255
 kd : p.kd < 256
 n : p.pa.length < 65536
 pa : ∀ x ∈ p.pa, PaB x
structure PtB (p : Pt) : Prop where
 ref : p.ref.length ≤ 255
 lo : I64 p.lo
 hi : I64 p.hi
 dir : p.dir < 256
structure AwBd (a : AwD) : Prop where
 nm : a.nm.length ≤ 255
 n : a.ps.length < 65536
 ps : ∀ p ∈ a.ps, PtB p
structure FxB (f : Fx) : Prop where
 id : f.id.length ≤ 255
 rg : f.rg.length ≤ 255
 kd : f.kd < 256
 la : I64 f.lat
 lo : I64 f.lon
 el : I64 f.el
 ra : I64 f.ra
structure DbB (d : DbD) : Prop where
 nm : d.hd.nm.length ≤ 255
 cy : I64 d.hd.cy
 fr : I64 d.hd.fr
 tu : I64 d.hd.tu
 la : I64 d.hd.la
 lo : I64 d.hd.lo
 nf : d.fx.length < 65536
 na : d.aw.length < 65536
 np : d.pr.length < 65536
 fx : ∀ f ∈ d.fx, FxB f
 aw : ∀ a ∈ d.aw, AwBd a
 pr : ∀ p ∈ d.pr, PrB p
theorem flatB_len {α β : Type} (f : α → List β) (c : Nat) : ∀ (l : List α), (∀ a ∈ l, (f a).length ≤ c) → (l.flatMap f).length ≤ l.length * c
 | [], _ => by simp
 | a :: l, h => by
  rw [List.flatMap_cons, List.length_append, List.length_cons, Nat.succ_mul]
  have h1 := h a (List.mem_cons_self ..)
  have h2 := flatB_len f c l (fun b hb => h b (List.mem_cons_of_mem _ hb))
  omega
theorem txtLb_one (s : List UInt8) : (txtL [s]).length = s.length + 1 := by simp [txtL]
theorem txtLb_two (s t : List UInt8) : (txtL [s, t]).length = s.length + t.length + 2 := by simp [txtL]; omega
theorem hdB_len {h : ImHd} (hn : h.nm.length ≤ 255) : (hdB h).length ≤ 296 := by
 unfold hdB; rw [List.length_append, txtLb_one, numB_len]; simp only [List.length_cons, List.length_nil]; omega
theorem fxB_len {f : Fx} (h : FxB f) : (fxB f).length ≤ 545 := by
 have := h.id; have := h.rg
 unfold fxB; rw [List.length_append, List.length_append, txtLb_two, numB_len]; simp only [List.length_cons, List.length_nil]; omega
theorem ptB_len {p : Pt} (h : p.ref.length ≤ 255) : (ptB p).length ≤ 273 := by
 unfold ptB; rw [List.length_append, List.length_append, txtLb_one, numB_len]; simp only [List.length_cons, List.length_nil]; omega
theorem awB_len {a : AwD} (h : AwBd a) (n : Nat) (hn : a.ps.length ≤ n) : (awB a).length ≤ 258 + n * 273 := by
 have h1 := flatB_len ptB 273 a.ps (fun p hp => ptB_len (h.ps p hp).ref)
 have h2 := h.nm
 have h3 : a.ps.length * 273 ≤ n * 273 := Nat.mul_le_mul_right _ hn
 unfold awB; rw [List.length_append, List.length_append, txtLb_one, lowB_len]; omega
theorem lgB_len {g : Lg} (h : LgB g) : (lgB g).length ≤ 579 := by
 have := h.fi; have := h.ce
 unfold lgB; rw [List.length_append, List.length_append, List.length_append, txtLb_two, numB_len]; simp only [List.length_cons, List.length_nil]; omega
theorem paB_len {x : Pa} (h : PaB x) (n : Nat) (hn : x.lg.length ≤ n) : (paB x).length ≤ 259 + n * 579 := by
 have h1 := flatB_len lgB 579 x.lg (fun g hg => lgB_len (h.lg g hg))
 have h2 := h.nm
 have h3 : x.lg.length * 579 ≤ n * 579 := Nat.mul_le_mul_right _ hn
 unfold paB; rw [List.length_append, List.length_append, List.length_append, txtLb_one, lowB_len]; simp only [List.length_cons, List.length_nil]; omega
theorem prB_len {p : Prc} (h : PrB p) (n m : Nat) (hn : p.pa.length ≤ n) (hm : ∀ x ∈ p.pa, x.lg.length ≤ m) : (prB p).length ≤ 515 + n * (259 + m * 579) := by
 have h1 := flatB_len paB (259 + m * 579) p.pa (fun x hx => paB_len (h.pa x hx) m (hm x hx))
 have h2 := h.nm
 have h4 := h.ap
 have h3 : p.pa.length * (259 + m * 579) ≤ n * (259 + m * 579) := Nat.mul_le_mul_right _ hn
 unfold prB; rw [List.length_append, List.length_append, List.length_append, txtLb_two, lowB_len]; simp only [List.length_cons, List.length_nil]; omega
theorem secsB_four (a b c d : List UInt8) : (secsB 1 [a, b, c, d]).length = 20 + a.length + b.length + c.length + d.length := by
 simp only [secsB, List.length_append, secB_len, List.length_nil]; omega
theorem few_aw {d : DbD} {a : AwD} (h : a ∈ (fewD d).aw) : a.ps.length ≤ 8 := by
 obtain ⟨b, _, rfl⟩ := List.mem_map.1 h
 show (b.ps.take 8).length ≤ 8
 rw [List.length_take]; omega
theorem few_pr {d : DbD} {p : Prc} (h : p ∈ (fewD d).pr) : p.pa.length ≤ 5 ∧ ∀ x ∈ p.pa, x.lg.length ≤ 6 := by
 obtain ⟨q, _, rfl⟩ := List.mem_map.1 h
 refine ⟨?_, fun x hx => ?_⟩
 ·show ((q.pa.take 5).map fewP).length ≤ 5
  rw [List.length_map, List.length_take]; omega
 ·obtain ⟨y, _, rfl⟩ := List.mem_map.1 hx
  show (y.lg.take 6).length ≤ 6
  rw [List.length_take]; omega
theorem fewD_len {d : DbD} (h : DbB (fewD d)) : (dbB (fewD d)).length ≤ 900000 := by
 have h1 := hdB_len h.nm
 have n2 : (fewD d).fx.length ≤ 24 := by show (d.fx.take 24).length ≤ 24; rw [List.length_take]; omega
 have n3 : (fewD d).aw.length ≤ 6 := by show ((d.aw.take 6).map fewA).length ≤ 6; rw [List.length_map, List.length_take]; omega
 have n4 : (fewD d).pr.length ≤ 4 := by show ((d.pr.take 4).map fewR).length ≤ 4; rw [List.length_map, List.length_take]; omega
 have h2 := flatB_len fxB 545 (fewD d).fx (fun f hf => fxB_len (h.fx f hf))
 have h3 := flatB_len awB (258 + 8 * 273) (fewD d).aw (fun a ha => awB_len (h.aw a ha) 8 (few_aw ha))
 have h4 := flatB_len prB (515 + 5 * (259 + 6 * 579)) (fewD d).pr (fun p hp => prB_len (h.pr p hp) 5 6 (few_pr hp).1 (few_pr hp).2)
 unfold dbB conB
 rw [List.length_append, secsB_four, List.length_append, List.length_append, List.length_append, lowB_len, lowB_len, lowB_len, show magicL.length = 4 from rfl]
 omega
end Go.Proofs.YtlhniiakacbbeaaGreatDoor
