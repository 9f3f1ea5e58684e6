/-
  Several texts as one.
-/
import Derived.Test.YtlhniiakacbbeaaGreatDoorMG04
import Derived.Test.YtlhniiakacbbeaaGreatDoorMG05
import Derived.Test.YtlhniiakacbbeaaGreatDoorMG09
namespace Go.Proofs.YtlhniiakacbbeaaGreatDoor
open Go.RowKit
set_option linter.unusedVariables false
set_option linter.unusedSimpArgs false
def setAll (w : World) (b : Nat) : Nat → List Value → World
 | _, [] => w
 | k, v :: vs => setAll (w.setCell ⟨b, k, none⟩ v) b (k + 1) vs
def setArr (cs : Array Value) : Nat → List Value → Array Value
 | _, [] => cs
 | k, v :: vs => setArr (cs.setIfInBounds k v) (k + 1) vs
theorem setAll_frm (b : Nat) : ∀ (vs : List Value) (k : Nat) (w : World), Frm (· = b) w (setAll w b k vs)
 | [], _, w => Frm.refl _ w
 | v :: vs, k, w => (frm_set w b k v).trans (setAll_frm b vs (k + 1) _)
theorem setAll_bx {b : Nat} {t : TypeId} : ∀ (vs : List Value) (k : Nat) (w : World) (cs : Array Value), Bx b cs t w → Bx b (setArr cs k vs) t (setAll w b k vs)
 | [], _, _, _, h => h
 | v :: vs, k, w, cs, h => setAll_bx vs (k + 1) _ _ (h.set k v)
structure ImB (g gb ob c st : Nat) (bs : List UInt8) (q : Nat) (cs : Array Value) (T : TypeId) (s : RS) (w w' : World) : Prop where
 r : RdPTo g gb ob c st bs s w w'
 x : Bx q cs T w'
 ne : q ≠ g
 nb : gb ≠ q
section
variable {g gb ob c st q : Nat} {bs : List UInt8} {cs : Array Value} {T : TypeId} {s s' : RS} {w w1 w2 : World}
theorem ImB.then_ (h : ImB g gb ob c st bs q cs T s w w1) (k : RdPTo g gb ob c st bs s' w1 w2) : ImB g gb ob c st bs q cs T s' w w2 :=
 ⟨h.r.then_ k, (k.f.block q h.x.lt h.ne).trans h.x, h.ne, h.nb⟩
theorem ImB.fin (h : ImB g gb ob c st bs q cs T s w w1) (vs : List Value) (hs : setArr cs 0 vs = vs.toArray) (hq : w.heap.size = q) : Bx q vs.toArray T (setAll w1 q 0 vs) ∧ RdPTo g gb ob c st bs s w (setAll w1 q 0 vs) := by
 have hf := setAll_frm q vs 0 w1
 have hx := setAll_bx vs 0 w1 cs h.x
 rw [hs] at hx
 refine ⟨hx, h.r.r.keep hf (fun e => h.ne e.symm) h.nb, ⟨hf.os.trans h.r.f.os, hf.tape.trans h.r.f.tape, hf.output.trans h.r.f.output, Nat.le_trans h.r.f.size hf.size, fun k hk hn => ?_⟩⟩
 exact (hf.block k (Nat.lt_of_lt_of_le hk h.r.f.size) (by omega)).trans (h.r.f.block k hk hn)
end
def Chn (R : RS → List Value → Prop) (one : RS → RS) (s0 : RS) : List (List Value) → RS → Prop
 | [], s => s = s0
 | c :: t, s => ∃ s', Chn R one s0 t s' ∧ s'.2 = false ∧ R s' c ∧ s = one s'
def ImLPost (R : RS → List Value → Prop) (one : RS → RS) (T : TypeId) (K : Nat) (g gb ob c st : Nat) (bs : List UInt8) (s : RS) (w : World) (e : Ending) (w' : World) : Prop :=
 ∃ v, e = .returned v ∧ (∃ A n c', v = .slice A n c') ∧ (lsN bs st s = 0 → v = .slice none 0 0) ∧ ((lsS bs st one s).2 = false → ∃ L : List (List Value), L.length = lsN bs st s ∧ Chn R one (tkS st 2 s) L (lsS bs st one s) ∧ w'.ownsRow w.heap.size T K v L.length L.reverse.flatten) ∧ RdPTo g gb ob c st bs (lsS bs st one s) w w'
theorem own_frm2 {base g : Nat} {w w' : World} {e : TypeId} {size n : Nat} {v : Value} {xs : List Value} (h : w.ownsRow base e size v n xs) (hf : Frm (· = g) w w') (hg : g < base) : w'.ownsRow base e size v n xs := by
 obtain ⟨hl, h2 | ⟨b, cap, cur, hv, hb, hh, r⟩⟩ := h
 ·exact ⟨hl, .inl h2⟩
 ·exact ⟨hl, .inr ⟨b, cap, cur, hv, hb, (hf.block b (heap_lt hh) (by omega)).trans hh, r⟩⟩
theorem own_form {base : Nat} {w : World} {e : TypeId} {size n : Nat} {v : Value} {xs : List Value} (h : w.ownsRow base e size v n xs) : ∃ A n' c', v = .slice A n' c' := by
 obtain ⟨_, ⟨rfl, _⟩ | ⟨b, cap, cur, rfl, _⟩⟩ := h
 ·exact ⟨_, _, _, rfl⟩
 ·exact ⟨_, _, _, rfl⟩
theorem chn_step {R : RS → List Value → Prop} {one : RS → RS} {T : TypeId} {K g gb ob c st n k ak : Nat} {bs : List UInt8} {s1 fin : RS} {L : List (List Value)} {cs : List Value} {v v3 : Value} {w w2 w3 : World} {o : Obj}
  (hL : L.length = k) (hch : Chn R one s1 L (ak, false)) (hit : itS one (n - k) (ak, false) = fin) (hcs : R (ak, false) cs) (hlt : k < n) (hrd : RdPTo g gb ob c st bs (one (ak, false)) w w2) (hown2 : w2.ownsRow w.heap.size T K v L.length L.reverse.flatten)
  (hlo : ∀ b, v.ownBlock = some b → w.heap.size ≤ b ∧ b < w2.heap.size) (hown3 : w3.ownsRow w.heap.size T K v3 (k + 1) (L.reverse.flatten ++ cs)) (hg : (w2.alloc o).grownBy w3 v.ownBlock) (hgl : g < w.heap.size) (hgb : gb < w.heap.size) :
  (cs :: L).length = k + 1 ∧ Chn R one s1 (cs :: L) (one (ak, false)) ∧ itS one (n - (k + 1)) (one (ak, false)) = fin ∧ w3.ownsRow w.heap.size T K v3 (cs :: L).length (cs :: L).reverse.flatten ∧ RdPTo g gb ob c st bs (one (ak, false)) w w3 := by
 have hsz := hrd.f.size
 have hF : Frm (fun b => w.heap.size ≤ b) w2 w3 := by
  refine ⟨hg.os, hg.tape, hg.output, ?_, fun b hb hn => ?_⟩
  ·have := hg.size
   rw [World.size_alloc] at this; omega
  ·have h1 := hg.block b (by rw [World.size_alloc]; omega) (by intro e; have := (hlo b e.symm).1; omega)
   rw [h1]
   exact ((Below.refl w2.heap.size w2).alloc (Nat.le_refl _) o).block b hb
 refine ⟨by simp [hL], ⟨_, hch, rfl, hcs, rfl⟩, ?_, ?_, ⟨hrd.r.keep hF (by omega) (by omega), ?_⟩⟩
 ·rw [← hit, show n - k = (n - (k + 1)) + 1 by omega, itS_more]
 ·rw [List.length_cons, hL, List.reverse_cons, List.flatten_append]
  simpa using hown3
 ·refine ⟨hF.os.trans hrd.f.os, hF.tape.trans hrd.f.tape, hF.output.trans hrd.f.output, Nat.le_trans hsz hF.size, fun b hb hn => ?_⟩
  exact (hF.block b (by omega) (by omega)).trans (hrd.f.block b hb hn)
set_option maxRecDepth 100000 in
set_option maxHeartbeats 2000000 in
theorem cloneO_any (g o c : Nat) (bs : List UInt8) (w : World) (h : BsA w g o bs) (hc : bs.length ≤ c) (hm : c ≤ maxLen) (hN : bs.length ≤ 1000000000) :
  Calls Tryz.prog 138 #[.slice (some ⟨g, o, none⟩) bs.length c] w fun e w' => ∃ v, e = .returned v ∧ BsNew bs w v w' ∧ w'.ownsRow w.heap.size 5 1 v bs.length (bs.map u8c) := by
 obtain ⟨i0, hi, hz0, hz1, hz2⟩ := info_parts infoU8b
 have hnil : ∀ W, (binOp .eql 68 (.slice (some ⟨g, o, none⟩) bs.length c) (.slice none 0 0)).run Tryz.prog W = .ok (.bool false) W := fun W => Lib.run_eql_slice_nil W _ _ _ _ _ _ _ Tryz.underlying68
 have HEMP := Lib.hid (World.ownsRow_lit (base := w.heap.size) (e := 5) (size := 1) w #[] 0 (Nat.le_refl _) (by unfold maxLen; omega) rfl)
 have hba : Below w.heap.size w (w.alloc (.cells #[] 5)) := (Below.refl _ _).alloc (Nat.le_refl _) _
 have HX := Lib.hid (h.news hba)
 have HONE := Lib.hid (u8cells_one bs)
 have HL2 : Hid ((bs.map u8c).length = bs.length * 1) := by unfold Hid; simp
 have H0 : Hid (bs.length = 0 → BsNew bs w (.slice (some ⟨w.heap.size, 0, none⟩) bs.length 0) (w.alloc (.cells #[] 5)) ∧ (w.alloc (.cells #[] 5)).ownsRow w.heap.size 5 1 (.slice (some ⟨w.heap.size, 0, none⟩) bs.length 0) bs.length (bs.map u8c)) := by
  intro h0
  refine ⟨?_, by rw [List.eq_nil_of_length_eq_zero h0]; exact HEMP.out⟩
  refine ⟨w.heap.size, 0, rfl, by omega, by unfold maxLen; omega, Nat.le_refl _, ?_, hba⟩
  rw [List.eq_nil_of_length_eq_zero h0]
  exact BsA.nil (by simp)
 unfold maxLen at hm
 obtain ⟨n, hn⟩ : ∃ n, bs.length = n := ⟨_, rfl⟩
 have HN := Lib.hid hn
 rw [hn] at hc hN hnil HL2 H0 ⊢
 clear h hba hn
 rcases Nat.eq_zero_or_pos n with h0 | h0
 ·have HZ := Lib.hid (H0.out h0)
  subst h0
  clear H0
  go_enter Tryz.func138, Tryz.ntmps138
  go_wp2
  go_ret
  exact ⟨_, rfl, HZ.out⟩
 ·clear H0
  go_enter Tryz.func138, Tryz.ntmps138
  go_wp2_with (at_builtin; (refine wpList_append_lies _ rfl _ _ 68 rfl w.heap.size 5 i0 (.int .u8 0) 1 1 Tryz.underlying68 hi hz0 hz1 hz2 rfl (by decide) _ _ _ rfl HEMP.out ⟨g, o, none⟩ n c (bs.map u8c) rfl HL2.out HX.out HONE.out h0 ?c3 ?c4 ?c5 _ rfl ?_))
  case c3 => unfold maxLen; omega
  case c4 => omega
  intro gg cap w' hown' hgrow hor hgg
  have HB : Hid (Below w.heap.size w w') := (((Below.refl _ _).alloc (Nat.le_refl _) _).grown hgrow (by simp) (fun k hk => by cases hk; exact Nat.le_refl _))
  have HO : Hid (BsNew bs w (.slice (some ⟨gg, 0, none⟩) n cap) w' ∧ w'.ownsRow w.heap.size 5 1 (.slice (some ⟨gg, 0, none⟩) n cap) n (bs.map u8c)) := by
   have h2 : w'.ownsRow w.heap.size 5 1 (.slice (some ⟨gg, 0, none⟩) bs.length cap) bs.length (bs.map u8c) := by rw [HN.out]; simpa using hown'
   have h3 := BsNew.of_own h2 HB.out
   rw [HN.out] at h3 h2
   exact ⟨h3, h2⟩
  clear hown' hgrow hor hgg
  try rw [Nat.zero_add]
  go_wp2
  go_ret
  exact ⟨_, rfl, HO.out⟩
theorem four_cells (x : Int) (h0 : 0 ≤ x) (h1 : x < 4294967296) : (fourL x).map u8c = [.int .u8 (x % 256), .int .u8 (x / 256 % 256), .int .u8 (x / 65536 % 256), .int .u8 (x / 16777216)] := by
 have e : x / 16777216 % 256 = x / 16777216 := by omega
 unfold fourL u8c
 simp only [List.map_cons, List.map_nil, u8of_nat, e]
def sealL (bs : List UInt8) : List UInt8 := bs ++ fourL (crcF bs)
set_option maxRecDepth 100000 in
set_option maxHeartbeats 8000000 in
theorem cseal_any (g o c : Nat) (bs : List UInt8) (w : World) (h : BsA w g o bs) (hc : bs.length ≤ c) (hm : c ≤ maxLen) (hN : bs.length ≤ 1000000) :
  Calls Tryz.prog 70 #[.slice (some ⟨g, o, none⟩) bs.length c] w fun e w' => ∃ v, e = .returned v ∧ BsNew (sealL bs) w v w' := by
 obtain ⟨i0, hi, hz0, hz1, hz2⟩ := info_parts infoU8b
 have hs := csum_any (.slice (some ⟨g, o, none⟩) bs.length c) bs w ⟨_, c, rfl, hc, hm, fun _ => ⟨g, o, rfl, h⟩⟩
 have hcl := cloneO_any g o c bs w h hc hm (by omega)
 have hbd := crcF_bd bs
 have hf := four_cells (crcF bs) hbd.1 hbd.2
 have HSL : Hid ((sealL bs).map u8c = bs.map u8c ++ (fourL (crcF bs)).map u8c) := by unfold Hid sealL; rw [List.map_append]
 have HSN : Hid ((sealL bs).length = bs.length + 4) := by unfold Hid sealL; rw [List.length_append]; rfl
 obtain ⟨S, hS⟩ : ∃ S, crcF bs = S := ⟨_, rfl⟩
 rw [hS] at hs hbd hf HSL
 rw [hf] at HSL
 have HCL := Lib.hid hcl
 obtain ⟨n, hn⟩ : ∃ n, bs.length = n := ⟨_, rfl⟩
 rw [hn] at hs hcl hc hN HSN HCL ⊢
 unfold maxLen at hm
 have HN := Lib.hid hn
 clear h hS hf hcl hn
 go_enter Tryz.func70, Tryz.ntmps70
 go_wp2_with fail
 refine hs.mono ?_
 rintro e w1 ⟨rfl, rfl⟩
 clear hs
 go_wp2_with fail
 refine HCL.out.mono ?_
 rintro e w2 ⟨v, rfl, hv, hown⟩
 have hb2 : Below w.heap.size w w2 := by obtain ⟨_, _, _, _, _, _, _, hb⟩ := hv; exact hb
 obtain ⟨A2, n2, c2, hvf⟩ := own_form hown
 rw [hvf] at hown ⊢
 have hlo := hown.lt
 have HB2 := Lib.hid hb2
 have HOWN := Lib.hid hown
 clear hv hvf hb2 HCL
 go_wp2_with (at_builtin; (refine wpList_append_lies _ rfl _ _ 68 rfl w.heap.size 5 i0 (.int .u8 0) 1 1 Tryz.underlying68 hi hz0 hz1 hz2 rfl (by decide) _ _ _ rfl (HOWN.out.alloc _) ⟨w2.heap.size, 0, none⟩ 4 4 [.int .u8 (S % 256), .int .u8 (S / 256 % 256), .int .u8 (S / 65536 % 256), .int .u8 (S / 16777216)] rfl rfl (World.news_of_block (heap_alloc_new w2 _)) ?c2 (by decide) ?c3 ?c4 ?c5 _ rfl ?_))
 case c2 => intro u hu; simp only [List.mem_cons, List.not_mem_nil, or_false] at hu; rcases hu with rfl | rfl | rfl | rfl <;> rfl
 case c3 => unfold maxLen; omega
 case c4 => omega
 case c5 => have := HB2.out.size; simp; omega
 intro gg cap w' hown' hgrow hor hgg
 have HB : Hid (Below w.heap.size w w') := ((HB2.out.alloc HB2.out.size _).grown hgrow (by have := HB2.out.size; simp; omega) (fun k hk => (hlo k hk).1))
 have HO : Hid (BsNew (sealL bs) w (.slice (some ⟨gg, 0, none⟩) (n + 4) cap) w') := by
  have h2 : w'.ownsRow w.heap.size 5 1 (.slice (some ⟨gg, 0, none⟩) (sealL bs).length cap) (sealL bs).length ((sealL bs).map u8c) := by rw [HSN.out, HSL.out]; exact hown'
  have h3 := BsNew.of_own h2 HB.out
  rw [HSN.out] at h3
  exact h3
 clear hown' hgrow hor hgg hlo hown
 go_wp2
 go_ret
 exact ⟨_, rfl, HO.out⟩
theorem seal_ok (bs : List UInt8) : opOk (sealL bs) = true ∧ (sealL bs).take ((sealL bs).length - 4) = bs := by
 have hl : (sealL bs).length = bs.length + 4 := by unfold sealL; rw [List.length_append]; rfl
 have ht : (sealL bs).take ((sealL bs).length - 4) = bs := by rw [hl, Nat.add_sub_cancel]; unfold sealL; exact List.take_left
 have hd : (sealL bs).drop ((sealL bs).length - 4) = fourL (crcF bs) := by rw [hl, Nat.add_sub_cancel]; unfold sealL; exact List.drop_left
 refine ⟨?_, ht⟩
 unfold opOk
 rw [hd, ht]
 simp
structure WrR (g B : Nat) (v : Value) (out : List UInt8) (w : World) : Prop where
 bx : Bx g #[v] 124 w
 own : w.ownsRow B 5 1 v out.length (out.map u8c)
 hi : B ≤ w.heap.size
theorem WrR.lo {g B : Nat} {v : Value} {out : List UInt8} {w : World} (h : WrR g B v out w) : v.ownBlock ≠ some g := fun e => by
 obtain ⟨cur, e', z, hh, he⟩ := own_block h.own g e
 have h5 := h.bx
 unfold Bx at h5
 rw [h5] at hh
 injection hh with hh
 injection hh with _ h6 _
 rw [← h6] at he
 exact absurd he (by decide)
theorem bx_ne {g b : Nat} {v : Value} {w : World} {cur : Array Value} {z : Nat × Nat} (h : Bx g #[v] 124 w) (hh : w.heap[b]? = some (.cells cur 5 z)) : b ≠ g := fun e => by
 subst e
 unfold Bx at h
 rw [h] at hh
 injection hh with hh
 injection hh with _ h6 _
 exact absurd h6 (by decide)
structure WrTo (g B : Nat) (v : Value) (out : List UInt8) (w : World) (v' : Value) (w' : World) : Prop where
 r : WrR g B v' out w'
 f : Frm (fun k => k = g ∨ v.ownBlock = some k) w w'
 o : ∀ b, v'.ownBlock = some b → v.ownBlock = some b ∨ w.heap.size ≤ b
theorem WrTo.refl {g B : Nat} {v : Value} {out : List UInt8} {w : World} (h : WrR g B v out w) : WrTo g B v out w v w := ⟨h, Frm.refl _ _, fun b hb => .inl hb⟩
theorem WrTo.then_ {g B : Nat} {v v1 v2 : Value} {o1 o2 : List UInt8} {w w1 w2 : World} (h : WrTo g B v o1 w v1 w1) (k : WrTo g B v1 o2 w1 v2 w2) : WrTo g B v o2 w v2 w2 := by
 have hs := h.f.size
 refine ⟨k.r, ⟨k.f.os.trans h.f.os, k.f.tape.trans h.f.tape, k.f.output.trans h.f.output, Nat.le_trans hs k.f.size, fun b hb hn => ?_⟩, fun b hb => ?_⟩
 ·refine (k.f.block b (by omega) (fun hc => ?_)).trans (h.f.block b hb hn)
  rcases hc with h1 | h1
  ·exact hn (.inl h1)
  ·rcases h.o b h1 with h2 | h2
   ·exact hn (.inr h2)
   ·omega
 ·rcases k.o b hb with h1 | h1
  ·exact h.o b h1
  ·exact .inr (by omega)
theorem WrR.push {g B : Nat} {v v' : Value} {out add : List UInt8} {w w3 : World} {o : Obj} (h : WrR g B v out w) (hown : w3.ownsRow B 5 1 v' (out.length + add.length) (out.map u8c ++ add.map u8c)) (hg : (w.alloc o).grownBy w3 v.ownBlock) (ho : ∀ b, v'.ownBlock = some b → v.ownBlock = some b ∨ w.heap.size ≤ b) :
  WrTo g B v (out ++ add) w v' (w3.setCell ⟨g, 0, none⟩ v') := by
 have hlt := h.own.lt
 have lo := h.lo
 have hi := h.hi
 have hgl := h.bx.lt
 have hsz : w.heap.size ≤ w3.heap.size := by have := hg.size; rw [World.size_alloc] at this; omega
 have hk : ∀ k, k < w.heap.size → v.ownBlock ≠ some k → w3.heap[k]? = w.heap[k]? := fun k hk hn =>
  (hg.block k (by rw [World.size_alloc]; omega) (fun e => hn e.symm)).trans (((Below.refl w.heap.size w).alloc (Nat.le_refl _) o).block k hk)
 have hoth : ∀ k, k ≠ g → (w3.setCell ⟨g, 0, none⟩ v').heap[k]? = w3.heap[k]? := fun k hk => heap_setCell_other w3 ⟨g, 0, none⟩ k v' (fun e => hk (by simpa using e))
 have hng : v.ownBlock ≠ some g := h.lo
 have hx3 : Bx g #[v] 124 w3 := (hk g hgl hng).trans h.bx
 refine ⟨⟨hx3.set 0 v', ?_, by simp; omega⟩, ⟨hg.os, hg.tape, hg.output, by simpa using hsz, fun k hkl hn => ?_⟩, ho⟩
 ·rw [List.length_append, List.map_append]
  obtain ⟨hl, h2 | ⟨b, cap, cur, hv, hb, hh, r⟩⟩ := hown
  ·exact ⟨hl, .inl h2⟩
  ·exact ⟨hl, .inr ⟨b, cap, cur, hv, hb, (hoth b (bx_ne hx3 hh)).trans hh, r⟩⟩
 ·exact (hoth k (fun e => hn (.inl e))).trans (hk k hkl (fun e => hn (.inr e)))
theorem WrR.push2 {g B : Nat} {v v' : Value} {out add : List UInt8} {w w3 : World} (h : WrR g B v out w) (hown : w3.ownsRow B 5 1 v' (out.length + add.length) (out.map u8c ++ add.map u8c)) (hg : w.grownBy w3 v.ownBlock) (ho : ∀ b, v'.ownBlock = some b → v.ownBlock = some b ∨ w.heap.size ≤ b) :
  WrTo g B v (out ++ add) w v' (w3.setCell ⟨g, 0, none⟩ v') := by
 have hlt := h.own.lt
 have lo := h.lo
 have hi := h.hi
 have hgl := h.bx.lt
 have hsz : w.heap.size ≤ w3.heap.size := hg.size
 have hk : ∀ k, k < w.heap.size → v.ownBlock ≠ some k → w3.heap[k]? = w.heap[k]? := fun k hk hn =>
  hg.block k hk (fun e => hn e.symm)
 have hoth : ∀ k, k ≠ g → (w3.setCell ⟨g, 0, none⟩ v').heap[k]? = w3.heap[k]? := fun k hk => heap_setCell_other w3 ⟨g, 0, none⟩ k v' (fun e => hk (by simpa using e))
 have hng : v.ownBlock ≠ some g := h.lo
 have hx3 : Bx g #[v] 124 w3 := (hk g hgl hng).trans h.bx
 refine ⟨⟨hx3.set 0 v', ?_, by simp; omega⟩, ⟨hg.os, hg.tape, hg.output, by simpa using hsz, fun k hkl hn => ?_⟩, ho⟩
 ·rw [List.length_append, List.map_append]
  obtain ⟨hl, h2 | ⟨b, cap, cur, hv, hb, hh, r⟩⟩ := hown
  ·exact ⟨hl, .inl h2⟩
  ·exact ⟨hl, .inr ⟨b, cap, cur, hv, hb, (hoth b (bx_ne hx3 hh)).trans hh, r⟩⟩
 ·exact (hoth k (fun e => hn (.inl e))).trans (hk k hkl (fun e => hn (.inr e)))
def shN : Nat → Int → Int
 | 0, n => n
 | k + 1, n => shN k n / 256
def lowB (n : Int) (k : Nat) : List UInt8 := (List.range k).map fun i => u8of (shN i n)
theorem lowB_len (n : Int) (k : Nat) : (lowB n k).length = k := by unfold lowB; simp
theorem lowB_snoc (n : Int) (k : Nat) : lowB n (k + 1) = lowB n k ++ [u8of (shN k n)] := by unfold lowB; rw [List.range_succ, List.map_append]; rfl
set_option maxRecDepth 100000 in
set_option maxHeartbeats 8000000 in
theorem wlow_any {g B : Nat} {v : Value} {out : List UInt8} (n : Int) (size : Nat) (hsz : size ≤ 8) (w : World) (h : WrR g B v out w) (hN : out.length ≤ 100000000) :
  Calls Tryz.prog 67 #[.pointer (some ⟨g, 0, none⟩), .int .i64 n, .int .i64 (size : Int)] w fun e w' => e = .returned (.tuple #[]) ∧ ∃ v', WrTo g B v (out ++ lowB n size) w v' w' := by
 obtain ⟨i0, hi, hz0, hz1, hz2⟩ := info_parts infoU8b
 have H := Lib.hid h
 clear h
 go_enter Tryz.func67, Tryz.ntmps67
 go_wp2_with fail
 go_loopw [1, 7] (fun nv iv wr => ∃ (k : Nat) (vk : Value), k ≤ size ∧ iv = .int .i64 (k : Int) ∧ nv = .int .i64 (shN k n) ∧ Hid (WrTo g B v (out ++ lowB n k) w vk wr)) (fun _ iv _ => size - (intOf iv).toNat)
 case atStart => exact ⟨0, v, Nat.zero_le _, rfl, rfl, by unfold Hid lowB; simpa using WrTo.refl H.out⟩
 case round =>
  obtain ⟨k, vk, hk, rfl, rfl, ht⟩ := hrel
  by_cases hlt : k < size
  ·have hx := ht.out.r.bx
   have hown := ht.out.r.own
   obtain ⟨Av, nv, cv, rfl⟩ := own_form hown
   have k0 := hx.cell 0 (u := .slice Av nv cv) rfl
   have f0 := hx.free 0
   have gl := hx.lt
   have hBs := ht.out.r.hi
   have hglo := ht.out.r.lo
   have hlo := hown.lt
   obtain ⟨m, hm⟩ : ∃ m, (out ++ lowB n k).length = m := ⟨_, rfl⟩
   have hm1 : m ≤ 100000008 := by rw [← hm, List.length_append, lowB_len]; omega
   rw [hm] at hown
   have HM := Lib.hid hm
   have HSN : Hid (lowB n (k + 1) = lowB n k ++ [u8of (shN k n)]) := lowB_snoc n k
   have HU : Hid ([u8of (shN k n)].map u8c = [.int .u8 (shN k n % 256)]) := by unfold Hid u8c; simp only [List.map_cons, List.map_nil, u8of_nat]
   have HSH : Hid (shN (k + 1) n = shN k n / 256) := rfl
   obtain ⟨x, hx0⟩ : ∃ x, shN k n = x := ⟨_, rfl⟩
   rw [hx0] at HSN HU HSH ⊢
   have HOWN := Lib.hid hown
   clear hown hx hm hx0
   go_wp2_with (at_builtin; (refine wpList_append_lies _ rfl _ _ 68 rfl B 5 i0 (.int .u8 0) 1 1 Tryz.underlying68 hi hz0 hz1 hz2 rfl (by decide) _ _ _ rfl (HOWN.out.alloc _) ⟨wr.heap.size, 0, none⟩ 1 1 [.int .u8 (x % 256)] rfl rfl (cell_one_new _ _ _) ?c2 (by decide) ?c3 ?c4 ?c5 _ rfl ?_))
   case c2 => intro u hu; simp only [List.mem_cons, List.not_mem_nil, or_false] at hu; rcases hu with rfl; rfl
   case c3 => unfold maxLen; omega
   case c4 => omega
   case c5 => simp; omega
   intro gg cap w3 hown3 hgrow hor hgg
   have hown4 : w3.ownsRow B 5 1 (.slice (some ⟨gg, 0, none⟩) (m + 1) cap) ((out ++ lowB n k).length + [u8of x].length) ((out ++ lowB n k).map u8c ++ [u8of x].map u8c) := by rw [HM.out, HU.out, List.map_append, List.append_assoc]; exact hown3
   have hoo : ∀ b, (Value.slice (some ⟨gg, 0, none⟩) (m + 1) cap).ownBlock = some b → (Value.slice Av nv cv).ownBlock = some b ∨ wr.heap.size ≤ b := fun b hb => by
    have : gg = b := by simpa [Value.ownBlock] using hb
    subst this
    rcases hor with h1 | h1
    ·exact .inl h1
    ·exact .inr (by rw [h1]; first | omega | simp)
   have R := Lib.hid (ht.out.then_ (ht.out.r.push hown4 hgrow hoo))
   have kg : w3.cell? ⟨g, 0, none⟩ = some (.slice Av nv cv) := by
    have hb := hgrow.block g (by rw [World.size_alloc]; omega) (by intro e; exact hglo e.symm)
    exact (World.cell?_of_block (w := wr.alloc _) (a := ⟨g, 0, none⟩) hb).trans ((((Below.refl wr.heap.size wr).alloc (Nat.le_refl _) _).cell (p := ⟨g, 0, none⟩) gl).trans k0)
   have fg : w3.frozen? ⟨g, 0, none⟩ = false := by
    have hx3 : Bx g #[.slice Av nv cv] 124 w3 := (hgrow.block g (by rw [World.size_alloc]; omega) (by intro e; exact hglo e.symm)).trans ((((Below.refl wr.heap.size wr).alloc (Nat.le_refl _) _).block g gl).trans ht.out.r.bx)
    exact hx3.free 0
   have gl3 : g < w3.heap.size := by have := hgrow.size; rw [World.size_alloc] at this; omega
   clear hown3 hown4 hgrow hoo hor hlo k0 f0
   go_wp2
   go_roundw
   case rel => exact ⟨k + 1, _, hlt, by first | rfl | go_num, by rw [HSH.out], by unfold Hid; rw [HSN.out, ← List.append_assoc]; exact R.out⟩
   case measure => simp [intOf]; omega
  ·have hks : k = size := by omega
   subst hks
   go_wp2
   go_end0
   exact ⟨rfl, _, ht.out⟩
set_option maxRecDepth 100000 in
set_option maxHeartbeats 8000000 in
theorem wbytes_any {g B : Nat} {v : Value} {out : List UInt8} (ga oa ca : Nat) (add : List UInt8) (w : World) (h : WrR g B v out w) (ha : BsA w ga oa add) (h0 : 0 < add.length) (hN : out.length + add.length ≤ 100000000) :
  Calls Tryz.prog 68 #[.pointer (some ⟨g, 0, none⟩), .slice (some ⟨ga, oa, none⟩) add.length ca] w fun e w' => e = .returned (.tuple #[]) ∧ ∃ v', WrTo g B v (out ++ add) w v' w' := by
 obtain ⟨i0, hi, hz0, hz1, hz2⟩ := info_parts infoU8b
 have H := Lib.hid h
 obtain ⟨Av, nv, cv, rfl⟩ := own_form h.own
 have k0 := h.bx.cell 0 (u := .slice Av nv cv) rfl
 have f0 := h.bx.free 0
 have gl := h.bx.lt
 have hBs := h.hi
 have hglo := h.lo
 have hlo := h.own.lt
 have HOWN := Lib.hid h.own
 have HX := Lib.hid (ha.news (Below.refl _ _))
 have HONE := Lib.hid (u8cells_one add)
 obtain ⟨m, hm⟩ : ∃ m, out.length = m := ⟨_, rfl⟩
 obtain ⟨p, hp⟩ : ∃ p, add.length = p := ⟨_, rfl⟩
 have HL2 : Hid ((add.map u8c).length = p * 1) := by unfold Hid; rw [List.length_map, hp]; omega
 rw [hm] at HOWN hN
 rw [hp] at h0 hN ⊢
 have HM := Lib.hid hm
 have HP := Lib.hid hp
 have hal := ha.1
 clear h ha hm hp
 go_enter Tryz.func68, Tryz.ntmps68
 go_wp2_with (at_builtin; (refine wpList_append_lies _ rfl _ _ 68 rfl B 5 i0 (.int .u8 0) 1 1 Tryz.underlying68 hi hz0 hz1 hz2 rfl (by decide) _ _ _ rfl HOWN.out ⟨ga, oa, none⟩ p ca (add.map u8c) rfl HL2.out HX.out HONE.out h0 ?c3 ?c4 ?c5 _ rfl ?_))
 case c3 => unfold maxLen; omega
 case c4 => omega
 case c5 => omega
 intro gg cap w3 hown3 hgrow hor hgg
 have hown4 : w3.ownsRow B 5 1 (.slice (some ⟨gg, 0, none⟩) (m + p) cap) (out.length + add.length) (out.map u8c ++ add.map u8c) := by rw [HM.out, HP.out]; exact hown3
 have hoo : ∀ b, (Value.slice (some ⟨gg, 0, none⟩) (m + p) cap).ownBlock = some b → (Value.slice Av nv cv).ownBlock = some b ∨ w.heap.size ≤ b := fun b hb => by
  have : gg = b := by simpa [Value.ownBlock] using hb
  subst this
  rcases hor with h1 | h1
  ·exact .inl h1
  ·exact .inr (by omega)
 have R := Lib.hid (H.out.push2 hown4 hgrow hoo)
 have hb3 := hgrow.block g gl (by intro e; exact hglo e.symm)
 have kg : w3.cell? ⟨g, 0, none⟩ = some (.slice Av nv cv) := (World.cell?_of_block (w := w) (a := ⟨g, 0, none⟩) hb3).trans k0
 have hx3 : Bx g #[.slice Av nv cv] 124 w3 := hb3.trans H.out.bx
 have fg := hx3.free 0
 have gl3 := hx3.lt
 clear hown3 hown4 hgrow hoo hor hlo k0 f0 hb3 hx3
 go_wp2
 go_end0
 exact ⟨rfl, _, R.out⟩
def numB (l : List Int) : List UInt8 := l.flatMap fun n => lowB n 8
theorem numB_snoc (l : List Int) (k : Nat) (hk : k < l.length) : numB (l.take (k + 1)) = numB (l.take k) ++ lowB l[k] 8 := by
 unfold numB; rw [List.take_succ_eq_append_getElem hk, List.flatMap_append]; simp
theorem numB_len (l : List Int) : (numB l).length = l.length * 8 := by
 unfold numB
 induction l with
 | nil => rfl
 | cons a l ih => rw [List.flatMap_cons, List.length_append, ih, lowB_len, List.length_cons]; omega
set_option maxRecDepth 100000 in
set_option maxHeartbeats 8000000 in
theorem wnumbers_any {g B : Nat} {v : Value} {out : List UInt8} (ga oa ca : Nat) (l : List Int) (w : World) (h : WrR g B v out w) (hgl : ga < w.heap.size) (hc : ∀ j (hj : j < l.length), w.cell? ⟨ga, oa + j, none⟩ = some (.int .i64 l[j])) (hg : ga ≠ g) (hgo : v.ownBlock ≠ some ga) (hN : out.length ≤ 1000000) (hl : l.length ≤ 1000) :
  Calls Tryz.prog 65 #[.pointer (some ⟨g, 0, none⟩), .slice (some ⟨ga, oa, none⟩) l.length ca] w fun e w' => e = .returned (.tuple #[]) ∧ ∃ v', WrTo g B v (out ++ numB l) w v' w' := by
 have H := Lib.hid h
 have HC := Lib.hid hc
 obtain ⟨n, hn⟩ : ∃ n, l.length = n := ⟨_, rfl⟩
 have HN := Lib.hid hn
 rw [hn] at hl ⊢
 clear h hc hn
 go_enter Tryz.func65, Tryz.ntmps65
 go_wp2_with fail
 go_loopw [8] (fun iv wr => ∃ (k : Nat) (vk : Value), k ≤ n ∧ iv = .int .i64 (k : Int) ∧ Hid (WrTo g B v (out ++ numB (l.take k)) w vk wr)) (fun iv _ => n - (intOf iv).toNat)
 case atStart => exact ⟨0, v, Nat.zero_le _, rfl, by unfold Hid numB; simpa using WrTo.refl H.out⟩
 case round =>
  obtain ⟨k, vk, hk, rfl, ht⟩ := hrel
  by_cases hlt : k < n
  ·have hkl : k < l.length := by rw [HN.out]; exact hlt
   have c0 := (ht.out.f.cell (a := ⟨ga, oa + k, none⟩) hgl (fun e => by rcases e with e | e; exact hg e; exact hgo e)).trans (HC.out k hkl)
   have hgw : ga < wr.heap.size := Nat.lt_of_lt_of_le hgl ht.out.f.size
   have HS := Lib.hid (numB_snoc l k hkl)
   have hll : (out ++ numB (l.take k)).length ≤ 100000000 := by rw [List.length_append, numB_len, List.length_take]; omega
   have hw := wlow_any l[k] 8 (by omega) wr ht.out.r hll
   obtain ⟨x, hx⟩ : ∃ x, l[k] = x := ⟨_, rfl⟩
   rw [hx] at c0 HS hw
   have HW := Lib.hid hw
   clear hx hll hw
   go_wp2_with fail
   refine HW.out.mono ?_
   rintro e w2 ⟨rfl, v2, hr⟩
   have R := Lib.hid (ht.out.then_ hr)
   clear HW hr c0
   go_wp2
   go_roundw
   case rel => exact ⟨k + 1, v2, hlt, by first | rfl | go_num, by unfold Hid; rw [HS.out, ← List.append_assoc]; exact R.out⟩
   case measure => simp [intOf]; omega
  ·have hkn : l.take k = l := List.take_of_length_le (by rw [HN.out]; omega)
   rw [hkn] at ht
   clear hkn
   go_wp2
   go_end0
   exact ⟨rfl, _, ht.out⟩
end Go.Proofs.YtlhniiakacbbeaaGreatDoor
