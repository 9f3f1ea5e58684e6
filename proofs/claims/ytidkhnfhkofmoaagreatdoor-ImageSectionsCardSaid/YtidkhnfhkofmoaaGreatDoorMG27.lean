/-
  Several texts as one.
  Contracts: slices.stableCmpFunc and slices.SortStableFunc at structs: a row is sorted, equal elements stay in order.
  Contracts: fix.Sort and flightdeckref14.Sort: fixes in the order of their references, equal ones in their order.
-/
import Derived.Test.YtidkhnfhkofmoaaGreatDoorMG26
import Derived.Test.YtidkhnfhkofmoaaGreatDoorMG05
import Derived.Test.YtidkhnfhkofmoaaGreatDoorMG03
namespace Go.Proofs.YtidkhnfhkofmoaaGreatDoor
open Go.RowKit Go.Lib Go.Sort
set_option linter.unusedVariables false
set_option linter.unusedSimpArgs false
section
variable {α : Type} [Inhabited α]
set_option maxRecDepth 100000 in
set_option maxHeartbeats 8000000 in
theorem stable_fx (k : Nat) (aE : ∀ w, (isAgg 73).run Tryz.prog w = .ok true w) (zE : ∀ w, (Go.sizeOf 73).run Tryz.prog w = .ok k w) (enc : α → List Value) (cf : α → α → Int) (hsw : Swo (ltOf cf)) (g : Nat) (cb : Array Value) (eg : ∀ args w, (callFunc g args).run Tryz.prog w = .ok (.enter g args) w)
  (blk off cap N : Nat) (d0 : Array α) (w0 : World) (R : RowK enc k w0 blk off d0) (hN : d0.size = N) (hC : CmpLays Tryz.prog g cb enc k cf blk off N w0) (hsz : N < 1152921504606846976)
  (L : List α) (w : World) (hs : L.length = N) (S : SWK enc k w0 blk off L.toArray w) :
  Calls Tryz.prog 130 #[.slice (some ⟨blk, off, none⟩) N cap, .int .i64 N, .func (.func g) #[] cb] w fun e w' => e = .returned (.tuple #[]) ∧ ∃ D, Stb (ltOf cf) L D ∧ SWK enc k w0 blk off D.toArray w' := by
 have S0 : Aside (SWK enc k w0 blk off ([] ++ L).toArray w) := S
 have HS := Lib.hid hs
 have HC : Aside _ := hC
 have hsz2 : N < 4611686018427387904 := by omega
 have HE : Hid (∀ w', (∃ D, Stb (ltOf cf) L D ∧ SWK enc k w0 blk off D.toArray w') → (fun (e : Ending) (w' : World) => e = .returned (.tuple #[]) ∧ ∃ D, Stb (ltOf cf) L D ∧ SWK enc k w0 blk off D.toArray w') (.returned (.tuple #[])) w') := fun w' h => ⟨rfl, h⟩
 clear S hs hC
 generalize hQ : (fun (e : Ending) (w' : World) => e = .returned (.tuple #[]) ∧ ∃ D, Stb (ltOf cf) L D ∧ SWK enc k w0 blk off D.toArray w') = Post at HE ⊢
 clear hQ
 go_enter Tryz.func130, Tryz.ntmps130
 go_wp2
 go_loopg [7, 8] N (fun g1 va vb wr => ∃ (a : Nat) (L1 D1 L2 : List α), va = .int .i64 a ∧ vb = .int .i64 ((a : Int) + 20) ∧ a ≤ N ∧ N - a ≤ g1 ∧ Hid (L = L1 ++ L2 ∧ Bf (ltOf cf) 20 L1 D1 ∧ D1.length = a) ∧ Aside (SWK enc k w0 blk off (D1 ++ L2).toArray wr))
 case atStart => exact ⟨0, [], [], L, rfl, by simp, Nat.zero_le _, by omega, ⟨rfl, Bf.nil, rfl⟩, S0⟩
 case round =>
  clear S0
  obtain ⟨a, L1, D1, L2, rfl, rfl, haN, hg1, HI, S1⟩ := hrel
  have HLN : Hid (a + L2.length = N) := by
   have h1 := HS.out
   have h2 := HI.out.2.1.len
   have h3 := HI.out.2.2
   rw [HI.out.1, List.length_append] at h1
   unfold Hid; omega
  by_cases hlt : a + 20 ≤ N
  ·have hltz : (a : Int) + 20 ≤ (N : Int) := by omega
   obtain ⟨l, L3, hl, hl20⟩ := take_of (X := L2) (n := 20) (by have := HLN.out; omega)
   have HL := Lib.hid hl
   have HL20 := Lib.hid hl20
   have hc := insertion_fx k aE zE enc cf hsw g cb eg blk off cap a (a + 20) N D1 l L3 d0 w0 wr R hN HC.out (by have h1 := HLN.out; have h2 := HI.out.2.2; rw [hl, List.length_append] at h1; simp only [List.length_append]; omega)
    (by have := S1.out; rw [hl] at this; simpa using this) HI.out.2.2.symm (by rw [HI.out.2.2, hl20]) hsz2
   rw [show (((a + 20 : Nat)) : Int) = (a : Int) + 20 by omega] at hc
   clear S1 hl hl20
   go_wp2_with fail
   refine hc.mono ?_
   rintro e w2 ⟨rfl, l', hst, S2⟩
   have HST := Lib.hid hst
   have S3 := asd S2
   clear S2 hc hst
   go_wp2
   go_roundg (N - (a + 20))
   case measure => omega
   case rel => exact ⟨a + 20, L1 ++ l, D1 ++ l', L3, by go_num, by rw [show ((a + 20 : Nat) : Int) = (a : Int) + 20 by omega], hlt, Nat.le_refl _, ⟨by rw [HI.out.1, HL.out]; simp, Bf.snoc HI.out.2.1 HL20.out HST.out, by rw [List.length_append, HI.out.2.2, HST.out.len, HL20.out]⟩, S3⟩
  ·have hltz : ¬ (a : Int) + 20 ≤ (N : Int) := by omega
   have hc := insertion_fx k aE zE enc cf hsw g cb eg blk off cap a N N D1 L2 [] d0 w0 wr R hN HC.out (by have h1 := HLN.out; have h2 := HI.out.2.2; simp only [List.length_append, List.length_nil]; omega)
    (by have := S1.out; simpa using this) HI.out.2.2.symm (by have h1 := HLN.out; have h2 := HI.out.2.2; omega) hsz2
   clear S1
   go_wp2_with fail
   refine hc.mono ?_
   rintro e w2 ⟨rfl, l', hst, S2⟩
   have HBK : Hid (Bk (ltOf cf) 20 L (D1 ++ l')) := by
    have h1 := HI.out.2.1.app (Bk.last (s := 20) (by have := HLN.out; omega) hst)
    rw [← HI.out.1] at h1; exact h1
   have S3 : Aside (SWK enc k w0 blk off (D1 ++ l').toArray w2) := by have := S2; rw [List.append_nil] at this; exact this
   obtain ⟨D, hD⟩ : ∃ D, D1 ++ l' = D := ⟨_, rfl⟩
   rw [hD] at HBK S3
   clear S2 hc hst hD HI HLN
   go_wp2
   go_loopg [6, 7, 8, 9] N (fun g2 vs _ _ _ wr => ∃ (s : Nat) (D : List α), vs = .int .i64 s ∧ 0 < s ∧ s ≤ 2 * N + 40 ∧ N - s ≤ g2 ∧ Hid (Bk (ltOf cf) s L D) ∧ Aside (SWK enc k w0 blk off D.toArray wr))
   case atStart => exact ⟨20, D, by go_num, by omega, by omega, by omega, HBK, S3⟩
   case round =>
    clear S3 HBK
    obtain ⟨s, D, rfl, hs0, hs1, hg2, HB, S4⟩ := hrel
    by_cases hsN : s < N
    ·have hsNz : (s : Int) < (N : Int) := by omega
     have HB0 : Hid (∃ L1 D1 L2 D2, L = L1 ++ L2 ∧ D = D1 ++ D2 ∧ Bf (ltOf cf) (2 * s) L1 D1 ∧ Bk (ltOf cf) s L2 D2 ∧ D1.length = 0) := ⟨[], [], L, D, rfl, rfl, Bf.nil, HB.out, rfl⟩
     clear HB
     go_wp2
     go_loopg [7, 8] N (fun g3 va vb wr => ∃ (a : Nat) (D : List α), va = .int .i64 a ∧ vb = .int .i64 ((a : Int) + 2 * (s : Int)) ∧ a ≤ N ∧ N - a ≤ g3 ∧ Hid (∃ L1 D1 L2 D2, L = L1 ++ L2 ∧ D = D1 ++ D2 ∧ Bf (ltOf cf) (2 * s) L1 D1 ∧ Bk (ltOf cf) s L2 D2 ∧ D1.length = a) ∧ Aside (SWK enc k w0 blk off D.toArray wr))
     case atStart => exact ⟨0, D, rfl, by simp, Nat.zero_le _, by omega, HB0, S4⟩
     case round =>
      clear S4 HB0
      obtain ⟨a, D, rfl, rfl, haN, hg3, HI, S5⟩ := hrel
      obtain ⟨L1, D1, L2, D2, hL, hD, hbf, hbk, hD1⟩ := HI.out
      have HLN : Hid (a + L2.length = N) := by
       have h1 := HS.out
       have h2 := hbf.len
       rw [hL, List.length_append] at h1
       unfold Hid; omega
      by_cases h2s : a + 2 * s ≤ N
      ·have h2sz : (a : Int) + 2 * (s : Int) ≤ (N : Int) := by omega
       obtain ⟨l, d, l2, d2, L3, D3, e1, e2, q1, q2, st1, st2, bk3⟩ := hbk.two hs0 (by have := HLN.out; omega)
       have HNX : Hid (∀ W, Mrg (ltOf cf) d d2 W → ∃ L1' D1' L2' D2', L = L1' ++ L2' ∧ D1 ++ W ++ D3 = D1' ++ D2' ∧ Bf (ltOf cf) (2 * s) L1' D1' ∧ Bk (ltOf cf) s L2' D2' ∧ D1'.length = a + 2 * s) := fun W hW =>
        ⟨L1 ++ (l ++ l2), D1 ++ W, L3, D3, by rw [hL, e1]; simp, rfl, Bf.snoc hbf (by rw [List.length_append]; omega) (st1.mrg st2 hW), bk3, by rw [List.length_append, hW.len, st1.len, st2.len]; omega⟩
       have hc := symMerge_fx k aE zE enc cf hsw g cb eg blk off cap N d0 w0 R hN HC.out hsz2 (2 * s) a (a + s) (a + 2 * s) D1 d d2 D3 wr (by omega)
        (by have h1 := HLN.out; rw [e1] at h1; simp only [List.length_append] at h1 ⊢; rw [hD1, st1.len, st2.len, bk3.len]; omega)
        (by have := S5.out; rw [hD, e2] at this; simpa using this) hD1.symm (by rw [st1.len]; omega) (by rw [st2.len]; omega) (by rw [st1.len]; omega) (by rw [st2.len]; omega) st1.srt st2.srt
       rw [show (((a + s : Nat)) : Int) = (a : Int) + (s : Int) by omega, show (((a + 2 * s : Nat)) : Int) = (a : Int) + 2 * (s : Int) by omega] at hc
       clear S5 hL hD hbf hbk hD1 e1 e2 q1 q2 st1 st2 bk3 HI
       go_wp2_with fail
       refine hc.mono ?_
       rintro e w3 ⟨rfl, W, hW, S6⟩
       have HN := Lib.hid (HNX.out W hW)
       have S7 := asd S6
       clear S6 hc hW HNX
       go_wp2
       go_roundg (N - (a + 2 * s))
       case measure => omega
       case rel => exact ⟨a + 2 * s, _, by rw [show ((a + 2 * s : Nat) : Int) = (a : Int) + 2 * (s : Int) by omega], by rw [show ((a + 2 * s : Nat) : Int) = (a : Int) + 2 * (s : Int) by omega], h2s, Nat.le_refl _, HN, S7⟩
      ·have h2sz : ¬ (a : Int) + 2 * (s : Int) ≤ (N : Int) := by omega
       by_cases hm : a + s < N
       ·have hmz : (a : Int) + (s : Int) < (N : Int) := by omega
        obtain ⟨l, d, L3, D3, e1, e2, q1, st1, bk3⟩ := hbk.first (by have := HLN.out; omega)
        have hL3 : a + s + L3.length = N := by have h1 := HLN.out; rw [e1, List.length_append] at h1; omega
        have st3 := bk3.one (by omega)
        have HNX : Hid (∀ W, Mrg (ltOf cf) d D3 W → Bk (ltOf cf) (2 * s) L (D1 ++ W ++ [])) := fun W hW => by
         have := hbf.app (Bk.last (s := 2 * s) (by rw [List.length_append]; omega) (st1.mrg st3 hW))
         rw [hL, e1, List.append_nil]; exact this
        have hc := symMerge_fx k aE zE enc cf hsw g cb eg blk off cap N d0 w0 R hN HC.out hsz2 (2 * s) a (a + s) N D1 d D3 [] wr (by omega)
         (by simp only [List.length_append, List.length_nil]; rw [hD1, st1.len, st3.len]; omega)
         (by have := S5.out; rw [hD, e2] at this; simpa using this) hD1.symm (by rw [st1.len]; omega) (by rw [st3.len]; omega) (by rw [st1.len]; omega) (by rw [st3.len]; omega) st1.srt st3.srt
        rw [show (((a + s : Nat)) : Int) = (a : Int) + (s : Int) by omega] at hc
        clear S5 hL hD hbf hbk hD1 e1 e2 q1 st1 bk3 HI st3 hL3
        go_wp2_with fail
        refine hc.mono ?_
        rintro e w3 ⟨rfl, W, hW, S6⟩
        have HN := Lib.hid (HNX.out W hW)
        have S7 := asd S6
        clear S6 hc hW HNX
        go_wp2
        go_roundg (N - s * 2)
        case measure => omega
        case rel => exact ⟨s * 2, _, by go_num, by omega, by omega, Nat.le_refl _, by rw [Nat.mul_comm s 2]; exact HN, S7⟩
       ·have hmz : ¬ (a : Int) + (s : Int) < (N : Int) := by omega
        have HN : Hid (Bk (ltOf cf) (2 * s) L D) := by
         have := hbf.app (Bk.last (s := 2 * s) (by have := HLN.out; omega) (hbk.one (by have := HLN.out; omega)))
         rw [← hL, ← hD] at this; exact this
        clear hL hD hbf hbk hD1 HI
        go_wp2
        go_roundg (N - s * 2)
        case measure => omega
        case rel => exact ⟨s * 2, D, by go_num, by omega, by omega, Nat.le_refl _, by rw [Nat.mul_comm s 2]; exact HN, S5⟩
    ·have hsNz : ¬ (s : Int) < (N : Int) := by omega
     have HF : Hid (Stb (ltOf cf) L D) := HB.out.one (by have := HS.out; omega)
     go_wp2
     go_end0
     exact HE.out _ ⟨D, HF.out, S4.out⟩
set_option maxRecDepth 100000 in
set_option maxHeartbeats 1000000 in
theorem stable0_fx (A : Option Addr) (cap : Nat) (fv : Value) (w : World) : Calls Tryz.prog 81 #[.slice A 0 cap, fv] w fun e w' => e = .returned (.tuple #[]) ∧ w' = w := by
 have h1 : ∀ w, Calls Tryz.prog 192 #[.slice A 0 cap, .int .i64 0, .int .i64 0, fv] w fun e w' => e = .returned (.tuple #[]) ∧ w' = w := by
  intro w
  go_enter Tryz.func192, Tryz.ntmps192
  go_wp2
  go_loopg [8] 0 (fun g i wr => i = .int .i64 1 ∧ wr = w)
  case atStart => exact ⟨rfl, rfl⟩
  case round =>
   obtain ⟨rfl, hw⟩ := hrel
   have HW := Lib.hid hw
   clear hw
   go_wp2
   go_end0
   exact ⟨rfl, HW.out⟩
 have h2 : ∀ w, Calls Tryz.prog 130 #[.slice A 0 cap, .int .i64 0, fv] w fun e w' => e = .returned (.tuple #[]) ∧ w' = w := by
  intro w
  go_enter Tryz.func130, Tryz.ntmps130
  go_wp2
  go_loopg [7, 8] 0 (fun g a b wr => a = .int .i64 0 ∧ b = .int .i64 20 ∧ wr = w)
  case atStart => exact ⟨rfl, rfl, rfl⟩
  case round =>
   obtain ⟨rfl, rfl, hw⟩ := hrel
   have HW := Lib.hid hw
   clear hw
   go_wp2_with fail
   refine (h1 _).mono ?_
   rintro e w2 ⟨rfl, hw2⟩
   have HW2 : Hid (w2 = w) := hw2.trans HW.out
   clear hw2
   go_wp2
   go_loopg [6] 0 (fun g a wr => a = .int .i64 20 ∧ wr = w)
   case atStart => exact ⟨rfl, HW2.out⟩
   case round =>
    obtain ⟨rfl, hw⟩ := hrel
    have HW := Lib.hid hw
    clear hw
    go_wp2
    go_end0
    exact ⟨rfl, HW.out⟩
 go_enter Tryz.func81, Tryz.ntmps81
 go_wp2_with fail
 refine (h2 _).mono ?_
 rintro e w2 ⟨rfl, rfl⟩
 go_wp2
 go_end0
 exact ⟨rfl, rfl⟩
set_option maxRecDepth 100000 in
set_option maxHeartbeats 1000000 in
theorem sortStable_fx (k : Nat) (aE : ∀ w, (isAgg 73).run Tryz.prog w = .ok true w) (zE : ∀ w, (Go.sizeOf 73).run Tryz.prog w = .ok k w) (enc : α → List Value) (cf : α → α → Int) (hsw : Swo (ltOf cf)) (g : Nat) (cb : Array Value) (eg : ∀ args w, (callFunc g args).run Tryz.prog w = .ok (.enter g args) w)
  (blk off cap N : Nat) (L : List α) (w : World) (R : RowK enc k w blk off L.toArray) (hN : L.length = N) (hC : CmpLays Tryz.prog g cb enc k cf blk off N w) (hsz : N < 1152921504606846976) :
  Calls Tryz.prog 81 #[.slice (some ⟨blk, off, none⟩) N cap, .func (.func g) #[] cb] w fun e w' => e = .returned (.tuple #[]) ∧ ∃ D, Stb (ltOf cf) L D ∧ SWK enc k w blk off D.toArray w' := by
 have hc := stable_fx k aE zE enc cf hsw g cb eg blk off cap N L.toArray w R (by rw [List.size_toArray]; exact hN) hC hsz L w hN ⟨0, #[], by unfold sortWorldK; rw [grow_empty]; exact (putRowK_self enc k w blk off _ R.hH).symm⟩
 clear hC hsw R
 go_enter Tryz.func81, Tryz.ntmps81
 go_wp2_with fail
 refine hc.mono ?_
 rintro e w2 ⟨rfl, D, h1, h2⟩
 have H1 := Lib.hid h1
 have H2 := asd h2
 clear h1 h2 hc
 go_wp2
 go_end0
 exact ⟨rfl, D, H1.out, H2.out⟩
end
end Go.Proofs.YtidkhnfhkofmoaaGreatDoor
namespace Go.Proofs.YtidkhnfhkofmoaaGreatDoor
open Go.RowKit Go.Lib Go.Sort
set_option linter.unusedVariables false
set_option linter.unusedSimpArgs false

section
variable {α : Type} [Inhabited α] {enc : α → List Value} {k : Nat}
theorem flatMap_at (hk : ∀ x, (enc x).length = k) (D : List α) {t : Nat} (h : t < D.length * k) : (D.flatMap enc)[t]? = some (flatK enc k D.toArray)[t]! := by
 have h0 : 0 < k := by
  rcases Nat.eq_zero_or_pos k with h1 | h1
  ·subst h1; simp at h
  ·exact h1
 have hi : t / k < D.length := Nat.div_lt_of_lt_mul (by rw [Nat.mul_comm]; exact h)
 have hj : t % k < k := Nat.mod_lt _ h0
 have e : t / k * k + t % k = t := by rw [Nat.mul_comm]; exact Nat.div_add_mod t k
 have h2 := flat_at (D.map enc) (by intro c hc; rw [List.mem_map] at hc; obtain ⟨x, _, rfl⟩ := hc; exact hk x) (t / k) (t % k) (by rw [List.length_map]; exact hi) hj
 rw [e, List.getElem_map, ← List.flatMap_def] at h2
 rw [h2, get_flatK enc k D.toArray t (by rw [List.size_toArray]; exact h), getElem!_pos D.toArray _ (by rw [List.size_toArray]; exact hi)]
 rw [List.getElem?_eq_getElem (by rw [hk]; exact hj), List.getElem_toArray, getElem!_pos (enc D[t / k]) _ (by rw [hk]; exact hj)]
theorem holdsK_own (hk : ∀ x, (enc x).length = k) {w : World} {base : Nat} {e : TypeId} {v : Value} {D : List α} (h : w.ownsRow base e k v D.length (D.flatMap enc)) (h0 : 0 < D.length) :
  ∃ g c, v = .slice (some ⟨g, 0, none⟩) D.length c ∧ D.length ≤ c ∧ c ≤ maxLen ∧ base ≤ g ∧ g < w.heap.size ∧ HoldsK enc k w g 0 D.toArray := by
 have hlt := h.lt
 have hcs := @World.ownsRow.cells _ _ _ _ _ _ _ h
 obtain ⟨hl, ⟨rfl, h1⟩ | ⟨g, cap, cur, rfl, hb, hh, hn, hm, _, _⟩⟩ := h
 ·omega
 ·refine ⟨g, cap, rfl, hn, hm, hb, heap_lt hh, fun t ht => ?_⟩
  rw [size_flatK, List.size_toArray] at ht
  have := hcs (g := g) rfl t _ (flatMap_at hk D ht)
  refine ⟨by simpa [Addr.add_lit] using this, ?_⟩
  unfold World.frozen?
  rw [hh]; simp
theorem rd_holdsK (hk : ∀ x, (enc x).length = k) {w : World} {g c : Nat} {D : List α} (h : HoldsK enc k w g 0 D.toArray) (hg : g < w.heap.size) (hc : D.length ≤ c) (hm : c ≤ maxLen) : Rd w k (.slice (some ⟨g, 0, none⟩) D.length c) D.length (D.flatMap enc) := by
 have hl : (D.flatMap enc).length = D.length * k := by rw [List.flatMap_def]; exact (flat_len (D.map enc) (by intro c hc; rw [List.mem_map] at hc; obtain ⟨x, _, rfl⟩ := hc; exact hk x)).trans (by rw [List.length_map])
 refine ⟨hl, _, c, rfl, hc, hm, fun _ => ⟨g, 0, rfl, hg, fun j u hu => ?_⟩⟩
 have hj : j < D.length * k := by
  rw [← hl]; exact (List.getElem?_eq_some_iff.1 hu).1
 have h1 := (h j (by rw [size_flatK, List.size_toArray]; exact hj)).1
 rw [flatMap_at hk D hj, Option.some.injEq] at hu
 rw [h1, ← hu]; rfl
theorem swk_below {w0 W : World} {blk off : Nat} {dk : Array α} (h : SWK enc k w0 blk off dk W) {B : Nat} (hB : B ≤ blk) (hB2 : B ≤ w0.heap.size) : Below B w0 W := by
 obtain ⟨n, os, rfl⟩ := h
 refine ⟨rfl, rfl, rfl, ?_, fun i hi => ?_⟩
 ·unfold sortWorldK; rw [size_grow, size_putRowK]; show w0.heap.size ≤ w0.heap.size + _; omega
 ·unfold sortWorldK
  rw [heap_grow_old _ _ (by rw [size_putRowK]; show i < w0.heap.size; omega)]
  show ((w0.heap.modify blk _)[i]? : Option Obj) = _
  rw [Array.getElem?_modify, if_neg (by omega)]
end
abbrev FxS := { f : Fx // f.id.length ≤ 1000000000000000 ∧ f.rg.length ≤ 1000000000000000 }
instance : Inhabited FxS := ⟨⟨fx0, by decide, by decide⟩⟩
def encF (f : FxS) : List Value := fxc f.1
theorem encF_len (f : FxS) : (encF f).length = 7 := rfl
theorem encF_one (f : FxS) : ∀ v ∈ encF f, v.oneCell' = true := by
 intro v hv
 unfold encF fxc at hv
 simp at hv
 rcases hv with rfl | rfl | rfl | rfl | rfl | rfl | rfl <;> rfl
def rfS (f : FxS) : List UInt8 := fxRef f.1
def cfF (x y : FxS) : Int := cmpS (rfS x) (rfS y)
theorem swoF : Swo (ltOf cfF) := swo_text rfS
theorem fxS_of : ∀ {l : List Fx}, SzL l → ∃ L : List FxS, L.map (·.1) = l
 | [], _ => ⟨[], rfl⟩
 | f :: l, h => by
  obtain ⟨L, hL⟩ := fxS_of (l := l) fun x hx => h x (List.mem_cons_of_mem _ hx)
  exact ⟨⟨f, h f (by simp)⟩ :: L, by rw [List.map_cons, hL]⟩
theorem fxcells_map (L : List FxS) : fxcells (L.map (·.1)) = L.flatMap encF := by
 unfold fxcells encF; rw [List.flatMap_map]
set_option maxHeartbeats 1000000 in
theorem fixRefG_any (f : FxS) (w : World) : Calls Tryz.prog 45 #[.agg (encF f).toArray] w fun e w' => e = .returned (.string (sb (rfS f))) ∧ ∃ q os', w' = grow (w.drewN q) os' := by
 obtain ⟨f, hi, hr⟩ := f
 have h1 : (sb f.id).size ≤ 1000000000000000 := hi
 have h2 : (sb f.rg).size ≤ 1000000000000000 := hr
 have HE : Hid (∀ s : ByteArray, bl s = fxRef f → sb (fxRef f) = s) := fun s h => by rw [← h, sb_bl]
 show Calls Tryz.prog 45 #[.agg #[.string (sb f.id), .string (sb f.rg), .int .u8 (f.kd : Int), .int .i64 f.lat, .int .i64 f.lon, .int .i64 f.el, .int .i64 f.ra]] w fun e w' => e = .returned (.string (sb (fxRef f))) ∧ ∃ q os', w' = grow (w.drewN q) os'
 go_enter Tryz.func45, Tryz.ntmps45
 go_wp2
 go_ret
 refine ⟨?_, 0, _, by rw [alloc_eq_grow]; rfl⟩
 rw [HE.out (sb f.id ++ ⟨#[47]⟩ ++ sb f.rg) (by rw [bl_append, bl_append, bl_sb, bl_sb]; unfold fxRef; simp [bl_mk])]
 first | rfl | (simp [ByteArray.append_assoc])
theorem fxBox_cells {w : World} {b : Nat} {f : Fx} (h : FxBox w b f) (hb : b < w.heap.size) (n : Nat) (os : Array Obj) : FxBox (grow (w.drewN n) os) b f := (heap_grow_old _ _ (by exact hb)).trans h
set_option maxRecDepth 100000 in
set_option maxHeartbeats 4000000 in
theorem cmpF_any (x y : FxS) (w : World) : Calls Tryz.prog 82 #[.agg (encF x).toArray, .agg (encF y).toArray] w fun e w' => e = .returned (.int .i64 (cfF x y)) ∧ ∃ q os', w' = grow (w.drewN q) os' := by
 have r1 := fun W => fixRefG_any x W
 have r2 := fun W => fixRefG_any y W
 have hc : ∀ W, Calls Tryz.prog 38 #[.string (sb (rfS x)), .string (sb (rfS y))] W fun e w' => e = .returned (.int .i64 (cfF x y)) ∧ ∃ q os', w' = grow (W.drewN q) os' := fun W =>
  (cmpStr_any (sb (rfS x)) (sb (rfS y)) W).mono fun e w' ⟨h1, h2⟩ => ⟨h1, 0, #[], by rw [h2, grow_empty]; rfl⟩
 obtain ⟨f, hf⟩ := x
 obtain ⟨g, hg⟩ := y
 obtain ⟨c, hcc⟩ : ∃ c, cfF ⟨f, hf⟩ ⟨g, hg⟩ = c := ⟨_, rfl⟩
 obtain ⟨rx, hrx⟩ : ∃ c, rfS ⟨f, hf⟩ = c := ⟨_, rfl⟩
 obtain ⟨ry, hry⟩ : ∃ c, rfS ⟨g, hg⟩ = c := ⟨_, rfl⟩
 rw [hrx] at r1 hc
 rw [hry] at r2 hc
 rw [hcc] at hc ⊢
 clear hcc hrx hry
 change ∀ W, Calls Tryz.prog 45 #[.agg #[.string (sb f.id), .string (sb f.rg), .int .u8 (f.kd : Int), .int .i64 f.lat, .int .i64 f.lon, .int .i64 f.el, .int .i64 f.ra]] W _ at r1
 change ∀ W, Calls Tryz.prog 45 #[.agg #[.string (sb g.id), .string (sb g.rg), .int .u8 (g.kd : Int), .int .i64 g.lat, .int .i64 g.lon, .int .i64 g.el, .int .i64 g.ra]] W _ at r2
 show Calls Tryz.prog 82 #[.agg #[.string (sb f.id), .string (sb f.rg), .int .u8 (f.kd : Int), .int .i64 f.lat, .int .i64 f.lon, .int .i64 f.el, .int .i64 f.ra], .agg #[.string (sb g.id), .string (sb g.rg), .int .u8 (g.kd : Int), .int .i64 g.lat, .int .i64 g.lon, .int .i64 g.el, .int .i64 g.ra]] w fun e w' => e = .returned (.int .i64 c) ∧ ∃ q os', w' = grow (w.drewN q) os'
 obtain ⟨W2, hW2⟩ : ∃ W2, (w.alloc (.cells #[.string (sb f.id), .string (sb f.rg), .int .u8 (f.kd : Int), .int .i64 f.lat, .int .i64 f.lon, .int .i64 f.el, .int .i64 f.ra] 73)).alloc (.cells #[.string (sb g.id), .string (sb g.rg), .int .u8 (g.kd : Int), .int .i64 g.lat, .int .i64 g.lon, .int .i64 g.el, .int .i64 g.ra] 73) = W2 := ⟨_, rfl⟩
 have X1 : FxBox W2 w.heap.size f := by
  rw [← hW2]; exact (((Below.refl _ _).alloc (Nat.le_refl _) _).block w.heap.size (by simp)).trans (heap_alloc_new w _)
 have X2 : FxBox W2 (w.heap.size + 1) g := by
  have := heap_alloc_new (w.alloc (.cells #[.string (sb f.id), .string (sb f.rg), .int .u8 (f.kd : Int), .int .i64 f.lat, .int .i64 f.lon, .int .i64 f.el, .int .i64 f.ra] 73)) (.cells #[.string (sb g.id), .string (sb g.rg), .int .u8 (g.kd : Int), .int .i64 g.lat, .int .i64 g.lon, .int .i64 g.el, .int .i64 g.ra] 73)
  rw [World.size_alloc, hW2] at this
  exact this
 have HW : Hid (∀ n os, ∃ q os', grow (W2.drewN n) os = grow (w.drewN q) os') := fun n os => ⟨n, _, by rw [← hW2, alloc_eq_grow, alloc_eq_grow, grow_grow]; show grow (grow (w.drewN n) _) os = _; rw [grow_grow]⟩
 have c0 := fun n os => (fxBox_cells X1 (lt_heap X1) n os).cells.c0
 have c1 := fun n os => (fxBox_cells X1 (lt_heap X1) n os).cells.c1
 have c2 := fun n os => (fxBox_cells X1 (lt_heap X1) n os).cells.c2
 have c3 := fun n os => (fxBox_cells X1 (lt_heap X1) n os).cells.c3
 have c4 := fun n os => (fxBox_cells X1 (lt_heap X1) n os).cells.c4
 have c5 := fun n os => (fxBox_cells X1 (lt_heap X1) n os).cells.c5
 have c6 := fun n os => (fxBox_cells X1 (lt_heap X1) n os).cells.c6
 have d0 := fun n os => (fxBox_cells X2 (lt_heap X2) n os).cells.c0
 have d1 := fun n os => (fxBox_cells X2 (lt_heap X2) n os).cells.c1
 have d2 := fun n os => (fxBox_cells X2 (lt_heap X2) n os).cells.c2
 have d3 := fun n os => (fxBox_cells X2 (lt_heap X2) n os).cells.c3
 have d4 := fun n os => (fxBox_cells X2 (lt_heap X2) n os).cells.c4
 have d5 := fun n os => (fxBox_cells X2 (lt_heap X2) n os).cells.c5
 have d6 := fun n os => (fxBox_cells X2 (lt_heap X2) n os).cells.c6
 have mixed := mixedS
 go_enter Tryz.func82, Tryz.ntmps82
 go_wp2_with fail
 try rw [hW2]
 clear X1 X2 hW2
 go_quiet_grown (first | (go_at_call 45; first | refine Calls.grown_of (r1 _) | refine Calls.grown_of (r2 _)) | (go_at_call 38; refine Calls.grown_of (hc _)))
 go_wp2
 go_ret
 exact ⟨rfl, HW.out nq osq⟩

set_option maxRecDepth 100000 in
set_option maxHeartbeats 1000000 in
theorem cloneF_any (v : Value) (l : List Fx) (w : World) (h : FxsR w v l) (hN : l.length ≤ 1000) :
  Calls Tryz.prog 80 #[v] w (FewPost l w) := by
 obtain ⟨i0, hi, hz0, hz1, hz2⟩ := info_parts infoFix
 obtain ⟨hlen, A, c, rfl, hc, hm, hr⟩ := h
 unfold maxLen at hm
 have HL := Lib.hid hlen
 have HR := Lib.hid hr
 have hnil : ∀ W, (binOp .eql 26 (.slice A l.length c) (.slice none 0 0)).run Tryz.prog W = .ok (.bool A.isNone) W := fun W => Lib.run_eql_slice_nil W _ _ _ _ _ _ _ Tryz.underlying26
 obtain ⟨n, hn⟩ : ∃ n, l.length = n := ⟨_, rfl⟩
 have HN := Lib.hid hn
 rw [hn] at hc hN hnil ⊢
 have HEMP := Lib.hid (World.ownsRow_lit (base := w.heap.size) (e := 73) (size := 7) w #[] 0 (Nat.le_refl _) (by unfold maxLen; omega) rfl)
 clear hlen hr hn
 rcases Nat.eq_zero_or_pos n with h0 | h0
 ·have HT0 : Hid (l = []) := List.eq_nil_of_length_eq_zero (HN.out.trans h0)
  subst h0
  cases A
  ·go_enter Tryz.func80, Tryz.ntmps80
   go_wp2
   go_ret
   refine ⟨_, rfl, ?_, Below.refl _ _⟩
   rw [HT0.out]
   exact World.ownsRow_nil _ _ _ _
  ·go_enter Tryz.func80, Tryz.ntmps80
   go_wp2
   go_ret
   refine ⟨_, rfl, ?_, (Below.refl _ _).alloc (Nat.le_refl _) _⟩
   rw [HT0.out]
   exact HEMP.out
 ·obtain ⟨g, o, rfl, hg, hx⟩ := HR.out (by rw [HN.out]; omega)
  have HX : Hid (∀ j u, (fxcells l)[j]? = some u → (w.alloc (.cells #[] 73)).cell? ((⟨g, o, none⟩ : Addr).add j) = some u) := by
   intro j u hu
   have h2 := (((Below.refl _ w).alloc (Nat.le_refl _) (.cells #[] 73)).cell (p := ⟨g, o + j, none⟩) hg).trans (hx j u hu)
   simp only [Addr.add]
   split
   ·rename_i hj0
    rw [hj0] at h2
    exact h2
   ·exact h2
  have HC5 : Hid (∀ u ∈ fxcells l, u.oneCell' = true) := by
   intro u hu
   unfold fxcells at hu
   obtain ⟨p, _, hp⟩ := List.mem_flatMap.mp hu
   unfold fxc at hp
   simp at hp
   rcases hp with rfl | rfl | rfl | rfl | rfl | rfl | rfl <;> rfl
  have HL2 : Hid ((fxcells l).length = n * 7) := by unfold Hid; rw [fxcells_len, HN.out]
  clear hx
  go_enter Tryz.func80, Tryz.ntmps80
  go_wp2_with (at_builtin; (refine wpList_append_own _ rfl _ _ 26 rfl w.heap.size 73 i0 (.agg #[.string ⟨#[]⟩, .string ⟨#[]⟩, .int .u8 0, .int .i64 0, .int .i64 0, .int .i64 0, .int .i64 0]) 7 72 Tryz.underlying26 hi hz0 hz1 hz2 rfl (by decide) _ _ _ rfl HEMP.out ⟨g, o, none⟩ n c (fxcells l) rfl HL2.out HX.out HC5.out ?c3 ?c4 ?c5 ?_))
  case c3 => unfold maxLen; omega
  case c4 => omega
  intro v' w' hown' hgrow _
  have HB : Hid (Below w.heap.size w w') := (((Below.refl _ _).alloc (Nat.le_refl _) _).grown hgrow (by simp) (fun k hk => by cases hk; exact Nat.le_refl _))
  have HO : Hid (w'.ownsRow w.heap.size 73 7 v' l.length (fxcells l)) := by
   have := hown'
   unfold Hid
   rw [HN.out]
   simpa using this
  clear hown' hgrow
  go_wp2
  go_ret
  exact ⟨_, rfl, HO.out, HB.out⟩
structure SortP (v' : Value) (D : List FxS) (w w' : World) : Prop where
 rd : FxsR w' v' (D.map (·.1))
 bl : Below w.heap.size w w'
 own : 0 < D.length → ∃ g c, v' = .slice (some ⟨g, 0, none⟩) D.length c ∧ w.heap.size ≤ g ∧ g < w'.heap.size ∧ HoldsK encF 7 w' g 0 D.toArray
theorem aggFix : ∀ w, (isAgg 73).run Tryz.prog w = .ok true w := fun w => by kernel_rfl
theorem sizeFix : ∀ w, (Go.sizeOf 73).run Tryz.prog w = .ok 7 w := fun w => by kernel_rfl
theorem SortP.of {v' : Value} {L D : List FxS} {w w1 w' : World} {g c : Nat} (hv : v' = .slice (some ⟨g, 0, none⟩) L.length c) (hb : Below w.heap.size w w1) (hg : w.heap.size ≤ g) (hg2 : g < w1.heap.size) (hc : L.length ≤ c) (hm : c ≤ maxLen)
  (hH : HoldsK encF 7 w1 g 0 L.toArray) (hst : Stb (ltOf cfF) L D) (S : SWK encF 7 w1 g 0 D.toArray w') : SortP v' D w w' := by
 have hl := hst.len
 have h2 := S.holds hg2 hH (by rw [List.size_toArray, List.size_toArray]; exact hl)
 refine ⟨?_, hb.trans (swk_below S hg hb.size), fun _ => ⟨g, c, by rw [hv, hl], hg, S.lt hg2, h2⟩⟩
 unfold FxsR
 rw [fxcells_map, List.length_map, hv, ← hl]
 exact rd_holdsK encF_len h2 (S.lt hg2) (by omega) hm
set_option maxRecDepth 100000 in
set_option maxHeartbeats 1000000 in
theorem sortF_any (v : Value) (L : List FxS) (w : World) (h : FxsR w v (L.map (·.1))) (hN : L.length ≤ 1000) :
  Calls Tryz.prog 35 #[v] w fun e w' => ∃ v' D, e = .returned v' ∧ Stb (ltOf cfF) L D ∧ SortP v' D w w' := by
 have hc1 := cloneF_any v _ w h (by rw [List.length_map]; exact hN)
 have HLM : Hid ((L.map (·.1)).length = L.length) := List.length_map _
 clear h
 go_enter Tryz.func35, Tryz.ntmps35
 go_wp2_with fail
 refine hc1.mono ?_
 rintro e w1 ⟨v1, rfl, hown, hb1⟩
 have HB1 := Lib.hid hb1
 rw [fxcells_map, HLM.out] at hown
 have HO := Lib.hid hown
 clear hc1 hb1
 rcases Nat.eq_zero_or_pos L.length with h0 | h0
 ·have HL0 : Hid (L = []) := List.eq_nil_of_length_eq_zero h0
  obtain ⟨A, c, rfl, _, _⟩ := (Rd.of_own hown : Rd w1 7 v1 L.length _).form
  rw [h0]
  clear hown h0
  go_wp2_with fail
  refine (stable0_fx A c _ _).mono ?_
  rintro e w2 ⟨rfl, rfl⟩
  go_wp2
  go_ret
  refine ⟨_, [], rfl, by rw [HL0.out]; exact Stb.nil _, ?_, HB1.out, fun h => absurd h (by simp)⟩
  have := Rd.of_own HO.out
  rw [HL0.out] at this
  exact this
 ·obtain ⟨g, c, rfl, hc, hm, hg, hg2, hH⟩ := holdsK_own encF_len hown h0
  have HH := Lib.hid hH
  have HC := Lib.hid hc
  have HM := Lib.hid hm
  have HG := Lib.hid hg
  have HG2 := Lib.hid hg2
  clear hown h0 hc hm hg hg2 hH
  go_wp2_with fail
  refine (sortStable_fx 7 aggFix sizeFix encF cfF swoF 82 #[] (fun _ _ => rfl) g 0 c L.length L _ ⟨encF_len, encF_one, HH.out, HG2.out⟩ rfl (fun _ _ _ _ x y => cmpF_any x y _) (by omega)).mono ?_
  rintro e w2 ⟨rfl, D, hst, hsw⟩
  have HP : Hid (SortP (.slice (some ⟨g, 0, none⟩) L.length c) D w w2) := SortP.of rfl HB1.out HG.out HG2.out HC.out HM.out HH.out hst hsw
  have HST := Lib.hid hst
  clear hst hsw
  go_wp2
  go_ret
  exact ⟨_, D, rfl, HST.out, HP.out⟩
end Go.Proofs.YtidkhnfhkofmoaaGreatDoor
