/-
  The law ImageInvalid: true at any database.
-/
import Derived.Test.YtlhniiakacbbeaaGreatDoorMG11
import Derived.Test.YtlhniiakacbbeaaGreatDoorFew
import Derived.Test.YtlhniiakacbbeaaGreatDoorMG23
import Derived.Test.YtlhniiakacbbeaaGreatDoorMG27
import Derived.Test.YtlhniiakacbbeaaGreatDoorMG10
import Derived.Test.YtlhniiakacbbeaaGreatDoorRbS
import Derived.Test.YtlhniiakacbbeaaGreatDoorDbJ
namespace Go.Proofs.YtlhniiakacbbeaaGreatDoor
open Go.RowKit Go.Lib Go.Sort
set_option linter.unusedVariables false
set_option linter.unusedSimpArgs false
def StA (a : AwD) : Prop := a.nm.length ≤ 255 ∧ ∀ p ∈ a.ps, p.ref.length ≤ 255
def StX (x : Pa) : Prop := x.nm.length ≤ 255 ∧ ∀ g ∈ x.lg, g.fi.length ≤ 255 ∧ g.ce.length ≤ 255
def StP (p : Prc) : Prop := (p.ap.length ≤ 255 ∧ p.nm.length ≤ 255) ∧ ∀ x ∈ p.pa, StX x
def StrOk (D : DbD) : Prop := (∀ f ∈ D.fx, f.id.length ≤ 255 ∧ f.rg.length ≤ 255) ∧ (∀ a ∈ D.aw, StA a) ∧ (∀ p ∈ D.pr, StP p)
theorem DbV.bd {w : World} {f a p : Value} {D : DbD} (h : DbV w f a p D) (hI : DbI D) (hs : StrOk D) (hn : D.hd.nm.length ≤ 255) (n1 : D.fx.length < 65536) (n2 : D.aw.length < 65536) (n3 : D.pr.length < 65536)
  (n4 : ∀ a ∈ D.aw, a.ps.length < 65536) (n5 : ∀ p ∈ D.pr, p.pa.length < 65536 ∧ ∀ x ∈ p.pa, x.lg.length < 65536) : DbB D := by
 obtain ⟨⟨i1, i2, i3, i4, i5⟩, iF, iA, iP⟩ := hI
 obtain ⟨sF, sA, sP⟩ := hs
 refine ⟨hn, i1, i2, i3, i4, i5, n1, n2, n3, fun f hf => ?_, fun a ha => ?_, fun p hp => ?_⟩
 ·obtain ⟨k1, k2, k3, k4⟩ := iF f hf
  exact ⟨(sF f hf).1, (sF f hf).2, (h.fx.2 f hf).2.2, k1, k2, k3, k4⟩
 ·obtain ⟨L, hL, -, hok⟩ := h.aw
  refine ⟨(sA a ha).1, n4 a ha, fun p hp => ?_⟩
  have ha2 := ha
  rw [hL] at ha2
  obtain ⟨x, hx, rfl⟩ := List.mem_map.1 ha2
  obtain ⟨k1, k2⟩ := iA _ ha p hp
  exact ⟨(sA _ ha).2 p hp, k1, k2, ((hok x hx).2.2 p hp).2⟩
 ·obtain ⟨L, hL, -, hok⟩ := h.pr
  have hp2 := hp
  rw [hL] at hp2
  obtain ⟨x, hx, rfl⟩ := List.mem_map.1 hp2
  refine ⟨(sP _ hp).1.1, (sP _ hp).1.2, (hok x hx).2.2.1, (n5 _ hp).1, fun y hy => ?_⟩
  obtain ⟨L2, hL2, -, hok2⟩ := (hok x hx).2.2.2
  have hy2 := hy
  rw [hL2] at hy2
  obtain ⟨z, hz, rfl⟩ := List.mem_map.1 hy2
  refine ⟨((sP _ hp).2 _ hy).1, (hok2 z hz).2.1, (n5 _ hp).2 _ hy, fun g hg => ?_⟩
  obtain ⟨k1, k2, k3, k4, k5, k6, k7, k8⟩ := iP _ hp _ hy g hg
  have hlo := (hok2 z hz).2.2.2 g hg
  exact ⟨(((sP _ hp).2 _ hy).2 g hg).1, (((sP _ hp).2 _ hy).2 g hg).2, hlo.2.2.1, hlo.2.2.2, k1, k2, k3, k4, k5, k6, k7, k8⟩
theorem take_all {α : Type} {P : α → Prop} {l : List α} {k : Nat} (hk : k < l.length) (h : ∀ x ∈ l.take k, P x) (h1 : P l[k]) : ∀ x ∈ l.take (k + 1), P x := by
 intro x hx
 rw [List.take_succ_eq_append_getElem hk] at hx
 rcases List.mem_append.1 hx with h2 | h2
 ·exact h x h2
 ·rw [List.mem_singleton.1 h2]; exact h1
theorem fewD_I {D : DbD} (h : DbI D) : DbI (fewD D) := by
 obtain ⟨h1, h2, h3, h4⟩ := h
 refine ⟨h1, fun f hf => h2 f (List.mem_of_mem_take hf), fun a ha => ?_, fun p hp => ?_⟩
 ·obtain ⟨b, hb, rfl⟩ := List.mem_map.1 ha
  exact fun p hp => h3 b (List.mem_of_mem_take hb) p (List.mem_of_mem_take hp)
 ·obtain ⟨b, hb, rfl⟩ := List.mem_map.1 hp
  intro x hx
  obtain ⟨y, hy, rfl⟩ := List.mem_map.1 hx
  exact fun g hg => h4 b (List.mem_of_mem_take hb) y (List.mem_of_mem_take hy) g (List.mem_of_mem_take hg)
theorem fewD_all {D : DbD} {w : World} {f a p : Value} (hI : DbI D) (hs : StrOk (fewD D)) (hn : (fewD D).hd.nm.length ≤ 255) (hv : DbV w f a p (fewD D)) : DbB (fewD D) ∧ (dbB (fewD D)).length ≤ 900000 := by
 have t : ∀ {α : Type} (l : List α) (n : Nat), n < 65536 → (l.take n).length < 65536 := fun l n h => by rw [List.length_take]; omega
 have h1 : DbB (fewD D) := by
  refine hv.bd (fewD_I hI) hs hn (t _ _ (by decide)) (by unfold fewD; rw [List.length_map]; exact t _ _ (by decide)) (by unfold fewD; rw [List.length_map]; exact t _ _ (by decide)) (fun a ha => ?_) (fun p hp => ?_)
  ·obtain ⟨b, hb, rfl⟩ := List.mem_map.1 ha
   exact t _ _ (by decide)
  ·obtain ⟨b, hb, rfl⟩ := List.mem_map.1 hp
   refine ⟨by unfold fewR; rw [List.length_map]; exact t _ _ (by decide), fun x hx => ?_⟩
   obtain ⟨y, hy, rfl⟩ := List.mem_map.1 hx
   exact t _ _ (by decide)
 exact ⟨h1, fewD_len h1⟩
set_option maxRecDepth 100000 in
set_option maxHeartbeats 80000000 in
theorem imageInvalid_walk (D : DbD) (f a p : Value) (w : World) (E : Env w) (hT : LegT w) (h : DbV w f a p D) (hz : SzL D.fx) (hI : DbI D) :
  Calls Tryz.prog 6 #[.agg (dbC D.hd f a p).toArray] w fun e w' => e = .returned (.bool true) ∧ Below w.heap.size w w' := by
 obtain ⟨Af, cf, rfl, hcf, hmf⟩ := h.fx.1.form
 obtain ⟨Aa, ca, rfl, hca, hma⟩ := h.aw.form
 obtain ⟨Ap, cp, rfl, hcp, hmp⟩ := h.pr.form
 obtain ⟨n, hn⟩ : ∃ n, D.fx.length = n := ⟨_, rfl⟩
 obtain ⟨na, hna⟩ : ∃ n, D.aw.length = n := ⟨_, rfl⟩
 obtain ⟨np, hnp⟩ : ∃ n, D.pr.length = n := ⟨_, rfl⟩
 rw [hn, hna, hnp] at h ⊢
 have HH := Lib.hid h
 rw [dbA_eq]
 unfold dbA
 obtain ⟨w1, hw1⟩ : ∃ W, w.alloc (.cells (dbA D.hd (.slice Af n cf) (.slice Aa na ca) (.slice Ap np cp)) 30) = W := ⟨_, rfl⟩
 obtain ⟨q, hq⟩ : ∃ q, w.heap.size = q := ⟨_, rfl⟩
 have B1 : Hid (Below w.heap.size w w1) := by rw [← hw1]; exact (Below.refl _ _).alloc (Nat.le_refl _) _
 have X1 : Hid (Bx q (dbA D.hd (.slice Af n cf) (.slice Aa na ca) (.slice Ap np cp)) 30 w1) := by rw [← hw1, ← hq]; exact Bx.last w _ _
 have haw := Lib.hid (awake19_any w1 (E.below B1.out) (hT.below B1.out))
 have HT := Lib.hid hT
 have HZ := Lib.hid hz
 unfold dbA at hw1
 have HW1 := Lib.hid hw1
 have HQ := Lib.hid hq
 clear h hw1 hn hna hnp hq hcf hmf hca hma hcp hmp hT E hz
 go_enter Tryz.func6, Tryz.ntmps6
 go_upto_region 1 with fail
 rw [HW1.out, HQ.out]
 clear HW1
 go_wp2_with fail
 refine haw.out.mono ?_
 rintro e w2 ⟨rfl, hb2⟩
 have B2 := Lib.hid (Below.then_ B1.out hb2)
 have X2 := Lib.hid (X1.out.via hb2)
 obtain ⟨⟨x0, x1, x2, x3, x4, x5, x6, x7, x8⟩, _⟩ := Bx.cells9 X2.out
 have xl := X2.out.lt
 have hfew := fewDb_any D (.slice Af n cf) (.slice Aa na ca) (.slice Ap np cp) w2 (HH.out.below B2.out)
 rw [dbA_eq] at hfew
 unfold dbA at hfew
 have HFEW := Lib.hid hfew
 clear hb2 haw hfew X1 B1
 go_wp2_with fail
 refine HFEW.out.mono ?_
 rintro e w3 ⟨⟨f3, a3, p3, rfl, hv3⟩, hb3⟩
 have B3 := Lib.hid (Below.then_ B2.out hb3)
 obtain ⟨Bf, df, rfl, hcf, hmf⟩ := hv3.fx.1.form
 obtain ⟨Ba, da, rfl, hca, hma⟩ := hv3.aw.form
 obtain ⟨Bp, dp, rfl, hcp, hmp⟩ := hv3.pr.form
 obtain ⟨D3, hD3⟩ : ∃ X, fewD D = X := ⟨_, rfl⟩
 have hh3 : D3.hd = D.hd := by rw [← hD3]; rfl
 have hsz := fewD_sz HZ.out
 have hbd0 : StrOk D3 → D3.hd.nm.length ≤ 255 → DbB D3 ∧ (dbB D3).length ≤ 900000 := fun h0 h1 => by
  have hv3' := hv3
  rw [hD3] at hv3'
  rw [← hD3] at h0 h1 ⊢; exact fewD_all hI h0 h1 hv3
 rw [hD3] at hv3 hcf hca hcp hsz ⊢
 obtain ⟨n3, hn3⟩ : ∃ n, D3.fx.length = n := ⟨_, rfl⟩
 obtain ⟨na3, hna3⟩ : ∃ n, D3.aw.length = n := ⟨_, rfl⟩
 obtain ⟨np3, hnp3⟩ : ∃ n, D3.pr.length = n := ⟨_, rfl⟩
 rw [hn3, hna3, hnp3] at hv3 ⊢
 have X3 := Lib.hid (X2.out.via hb3)
 have W3 : Hid (Bx q (dbA D.hd (.slice Bf n3 df) (.slice Ba na3 da) (.slice Bp np3 dp)) 30 (w3.setRow q (dbA D.hd (.slice Bf n3 df) (.slice Ba na3 da) (.slice Bp np3 dp)))) := setRow_heap _ q _ _ 30 (0, 0) X3.out
 have B9 : Hid (Below w.heap.size w (w3.setRow q (dbA D.hd (.slice Bf n3 df) (.slice Ba na3 da) (.slice Bp np3 dp)))) := row_below B3.out HQ.out
 have hv9 := hv3.but (But.setRow w3 q (dbA D.hd (.slice Bf n3 df) (.slice Ba na3 da) (.slice Bp np3 dp))) (box9_of X3.out)
 have hone : (dbA D.hd (.slice Bf n3 df) (.slice Ba na3 da) (.slice Bp np3 dp)).all (·.oneCell') = true := by simp [dbA, Value.oneCell']
 obtain ⟨W9, hW9⟩ : ∃ W, w3.setRow q (dbA D.hd (.slice Bf n3 df) (.slice Ba na3 da) (.slice Bp np3 dp)) = W := ⟨_, rfl⟩
 rw [hW9] at W3 B9 hv9
 have HV9 := Lib.hid hv9
 have HSZ := Lib.hid hsz
 have HW9 := Lib.hid hW9
 have HBD := Lib.hid hbd0
 have HH3 := Lib.hid hh3
 have H3 : Hid (D3.fx.length = n3 ∧ D3.aw.length = na3 ∧ D3.pr.length = np3) := ⟨hn3, hna3, hnp3⟩
 have hnl : (n3 : Int) ≤ 9223372036854775807 ∧ (na3 : Int) ≤ 9223372036854775807 ∧ (np3 : Int) ≤ 9223372036854775807 := by unfold maxLen at hmf hma hmp; omega
 have HNL := Lib.hid hnl
 rw [dbA_eq]
 clear hb3 B2 X2 HFEW hv3 x0 x1 x2 x3 x4 x5 x6 x7 x8 xl hcf hmf hca hma hcp hmp hD3 hh3 hsz hbd0 hn3 hna3 hnp3 hv9 hW9 HZ hI
 go_upto_region 4 with (refine wpList_plain rfl fun _ hK => wp_store_row 30 (.tmp 1) (.tmp 20) rfl q (dbA D.hd (.slice Bf n3 df) (.slice Ba na3 da) (.slice Bp np3 dp)) rfl rfl 30 _ X3.out infoDB9 rfl hone (hK _ _ ?_))
 rw [HW9.out]
 clear HW9 hone X3
 have HX9 : Hid (∀ W, RowKit.Below W9.heap.size W9 W → Bx q (dbA D.hd (.slice Bf n3 df) (.slice Ba na3 da) (.slice Bp np3 dp)) 30 W) := fun W hW => W3.out.via hW
 obtain ⟨⟨x0, x1, x2, x3, x4, x5, x6, x7, x8⟩, _⟩ := Bx.cells9 W3.out
 have xl := W3.out.lt
 clear W3
 go_wp2_with fail
 go_loopw [24] (fun iv wr => ∃ (k : Nat), k ≤ n3 ∧ iv = .int .i64 (k : Int) ∧ Hid (RowKit.Below W9.heap.size W9 wr) ∧ Hid (∀ x ∈ D3.fx.take k, x.id.length ≤ 255 ∧ x.rg.length ≤ 255)) (fun iv _ => n3 - (RowKit.intOf iv).toNat)
 case atStart => exact ⟨0, Nat.zero_le _, rfl, RowKit.Below.refl _ _, by unfold Hid; simp⟩
 case round =>
 clear x0 x1 x2 x3 x4 x5 x6 x7 x8 xl
 obtain ⟨k, hk, rfl, hb, hs⟩ := hrel
 by_cases hlt : k < n3
 ·have hkl : k < D3.fx.length := by rw [H3.out.1]; exact hlt
  have HR2 := Lib.hid (HV9.out.fx.1.below hb.out)
  obtain ⟨g, o, c', hA, hgl, hat⟩ := FxsR.at_ (by have := HR2.out; rw [← H3.out.1] at this; exact this : FxsR wr (.slice Bf D3.fx.length df) D3.fx) hkl
  rw [H3.out.1] at hA
  simp only [Value.slice.injEq, true_and] at hA
  obtain ⟨rfl, rfl⟩ := hA
  have HTA := Lib.hid (fun h1 => take_all hkl hs.out h1)
  obtain ⟨f, hf⟩ : ∃ f, D3.fx[k] = f := ⟨_, rfl⟩
  rw [hf] at hat HTA
  obtain ⟨id, rg, kd, la, lo, el, ra⟩ := f
  obtain ⟨y0, y1, y2, y3, y4, y5, y6⟩ := hat
  simp only at y0 y1 y2 y3 y4 y5 y6
  have hki : (k : Int) < (n3 : Int) := by omega
  have z0 : (sb id).size = id.length := by rw [← bl_len, bl_sb]
  have z1 : (sb rg).size = rg.length := by rw [← bl_len, bl_sb]
  obtain ⟨t0, ht0⟩ : ∃ t, sb id = t := ⟨_, rfl⟩
  obtain ⟨t1, ht1⟩ : ∃ t, sb rg = t := ⟨_, rfl⟩
  rw [ht0] at y0 z0
  rw [ht1] at y1 z1
  obtain ⟨wA, hwA⟩ : ∃ W, wr.alloc (.cells #[.string t0, .string t1, .int .u8 (kd : Int), .int .i64 la, .int .i64 lo, .int .i64 el, .int .i64 ra] 38) = W := ⟨_, rfl⟩
  have ba : RowKit.Below wr.heap.size wr wA := by rw [← hwA]; exact (RowKit.Below.refl _ _).alloc (Nat.le_refl _) _
  obtain ⟨qf, hqf⟩ : ∃ q, wr.heap.size = q := ⟨_, rfl⟩
  have XA : Hid (Bx qf #[.string t0, .string t1, .int .u8 (kd : Int), .int .i64 la, .int .i64 lo, .int .i64 el, .int .i64 ra] 38 wA) := by rw [← hwA, ← hqf]; exact Bx.last wr _ _
  have BA := Lib.hid (Below.then_ hb.out ba)
  have HWA := Lib.hid hwA
  have HQF := Lib.hid hqf
  have HLT := Lib.hid hlt
  have Z0 := Lib.hid z0
  have Z1 := Lib.hid z1
  have HFIN : Hid (t0.size ≤ 255 → t1.size ≤ 255 → ∀ x ∈ D3.fx.take (k + 1), x.id.length ≤ 255 ∧ x.rg.length ≤ 255) := fun h1 h2 => HTA.out ⟨by show id.length ≤ 255; omega, by show rg.length ≤ 255; omega⟩
  clear hqf hf hwA hb hs HR2 hkl ba hlt ht0 ht1 HTA z0 z1
  go_upto_region 7 with fail
  rw [HWA.out, HQF.out]
  clear HWA y0 y1 y2 y3 y4 y5 y6
  have y0 := XA.out.cell 0 (u := .string t0) rfl
  have y1 := XA.out.cell 1 (u := .string t1) rfl
  have yl := XA.out.lt
  by_cases h0 : t0.size ≤ 255
  ·have e0 : ¬ (255 : Int) < (t0.size : Int) := by omega
   by_cases h1 : t1.size ≤ 255
   ·have e1 : ¬ (255 : Int) < (t1.size : Int) := by omega
    have HF := Lib.hid (HFIN.out h0 h1)
    clear h0 h1 HFIN
    go_wp2
    go_roundw
    case rel => exact ⟨k + 1, HLT.out, by go_num, BA.out, HF.out⟩
    case measure => simp [RowKit.intOf]; omega
   ·have e1 : (255 : Int) < (t1.size : Int) := by omega
    have BF := Lib.hid (Below.then_ B9.out BA.out)
    clear h0 h1 HFIN
    go_wp2
    go_ret
    exact ⟨rfl, BF.out⟩
  ·have e0 : (255 : Int) < (t0.size : Int) := by omega
   have BF := Lib.hid (Below.then_ B9.out BA.out)
   clear h0 HFIN
   go_wp2
   go_ret
   exact ⟨rfl, BF.out⟩
 ·have HFX : Hid (∀ x ∈ D3.fx, x.id.length ≤ 255 ∧ x.rg.length ≤ 255) := by
   have h := hs.out
   rw [List.take_of_length_le (by rw [H3.out.1]; omega)] at h
   exact h
  have hki : ¬ (k : Int) < (n3 : Int) := by omega
  obtain ⟨WB, hWB⟩ : ∃ W, W = wr := ⟨_, rfl⟩
  subst hWB
  obtain ⟨⟨x0, x1, x2, x3, x4, x5, x6, x7, x8⟩, _⟩ := Bx.cells9 (HX9.out _ hb.out)
  have xl := (HX9.out _ hb.out).lt
  have HBB := Lib.hid hb.out
  clear hs hlt hk hb
  go_wp2_with fail
  go_loopw [42] (fun iv wr => ∃ (k : Nat), k ≤ na3 ∧ iv = .int .i64 (k : Int) ∧ Hid (RowKit.Below W9.heap.size W9 wr) ∧ Hid (∀ x ∈ D3.aw.take k, StA x)) (fun iv _ => na3 - (RowKit.intOf iv).toNat)
  case atStart => exact ⟨0, Nat.zero_le _, rfl, HBB.out, by unfold Hid; simp⟩
  case round =>
  clear x0 x1 x2 x3 x4 x5 x6 x7 x8 xl HBB hki
  obtain ⟨k, hk, rfl, hb, hs⟩ := hrel
  by_cases hlt : k < na3
  ·have hkl : k < D3.aw.length := by rw [H3.out.2.1]; exact hlt
   have HR2 := Lib.hid HV9.out.aw
   obtain ⟨g, o, c', av, hA, hgl, hat, hnl, hps⟩ := AwsD.at_ (by have := HR2.out; rw [← H3.out.2.1] at this; exact this : AwsD W9 (.slice Ba D3.aw.length da) D3.aw) hkl
   rw [H3.out.2.1] at hA
   simp only [Value.slice.injEq, true_and] at hA
   obtain ⟨rfl, rfl⟩ := hA
   have HTA := Lib.hid (fun h1 => take_all hkl hs.out h1)
   obtain ⟨x, hx⟩ : ∃ x, D3.aw[k] = x := ⟨_, rfl⟩
   rw [hx] at hat hps HTA
   obtain ⟨nm, ps⟩ := x
   simp only at hps
   obtain ⟨Av, cv, rfl, hcv, hmv⟩ := hps.form
   unfold maxLen at hmv
   obtain ⟨m, hm⟩ : ∃ m, ps.length = m := ⟨_, rfl⟩
   have HPS := Lib.hid hps
   obtain ⟨y0, y1⟩ := hat.below hgl hb.out
   simp only at y0
   rw [hm] at hcv y1 HPS
   have HM := Lib.hid hm
   have hgw : g < wr.heap.size := Nat.lt_of_lt_of_le hgl hb.out.size
   have hki : (k : Int) < (na3 : Int) := by omega
   have z0 : (sb nm).size = nm.length := by rw [← bl_len, bl_sb]
   obtain ⟨t0, ht0⟩ : ∃ t, sb nm = t := ⟨_, rfl⟩
   rw [ht0] at y0 z0
   obtain ⟨wA, hwA⟩ : ∃ W, wr.alloc (.cells #[.string t0, .slice Av m cv] 48) = W := ⟨_, rfl⟩
   have ba : RowKit.Below wr.heap.size wr wA := by rw [← hwA]; exact (RowKit.Below.refl _ _).alloc (Nat.le_refl _) _
   obtain ⟨qf, hqf⟩ : ∃ q, wr.heap.size = q := ⟨_, rfl⟩
   have XA : Hid (Bx qf #[.string t0, .slice Av m cv] 48 wA) := by rw [← hwA, ← hqf]; exact Bx.last wr _ _
   have BA := Lib.hid (Below.then_ hb.out ba)
   have HWA := Lib.hid hwA
   have HQF := Lib.hid hqf
   have HLT := Lib.hid hlt
   have HFIN : Hid (t0.size ≤ 255 → (∀ p ∈ ps, p.ref.length ≤ 255) → ∀ x ∈ D3.aw.take (k + 1), StA x) := fun h1 h2 => HTA.out ⟨by show nm.length ≤ 255; omega, h2⟩
   clear hqf hx hwA hb hs hps hat HR2 hkl ba hlt ht0 HTA z0 hm hnl
   go_upto_region 13 with fail
   rw [HWA.out, HQF.out]
   clear HWA y0 y1
   have y0 := XA.out.cell 0 (u := .string t0) rfl
   have y1 := XA.out.cell 1 (u := .slice Av m cv) rfl
   have yl := XA.out.lt
   by_cases h0 : t0.size ≤ 255
   ·have e0 : ¬ (255 : Int) < (t0.size : Int) := by omega
    have HF0 := Lib.hid (HFIN.out h0)
    clear h0 HFIN
    go_wp2_with fail
    go_loopw [53] (fun iv wr => ∃ (i : Nat), i ≤ m ∧ iv = .int .i64 (i : Int) ∧ Hid (RowKit.Below W9.heap.size W9 wr) ∧ Hid (∀ x ∈ ps.take i, x.ref.length ≤ 255)) (fun iv _ => m - (RowKit.intOf iv).toNat)
    case atStart => exact ⟨0, Nat.zero_le _, rfl, BA.out, by unfold Hid; simp⟩
    case round =>
    clear y0 y1 yl XA BA e0
    obtain ⟨i, hi, rfl, hb, hs⟩ := hrel
    by_cases hlm : i < m
    ·have hil : i < ps.length := by rw [HM.out]; exact hlm
     have HR3 := Lib.hid (HPS.out.below hb.out)
     obtain ⟨g2, o2, c2', hA2, hgl2, u0, u1, u2, u3⟩ := PtsR.at_ (by have := HR3.out; rw [← HM.out] at this; exact this : PtsR wr (.slice Av ps.length cv) ps) hil
     rw [HM.out] at hA2
     simp only [Value.slice.injEq, true_and] at hA2
     obtain ⟨rfl, rfl⟩ := hA2
     have HTA := Lib.hid (fun h1 => take_all (P := fun x : Pt => x.ref.length ≤ 255) hil hs.out h1)
     obtain ⟨p, hp⟩ : ∃ p, ps[i] = p := ⟨_, rfl⟩
     rw [hp] at u0 u1 u2 u3 HTA
     obtain ⟨pr, pl, ph, pd⟩ := p
     simp only at u0 u1 u2 u3
     have him : (i : Int) < (m : Int) := by omega
     have z0 : (sb pr).size = pr.length := by rw [← bl_len, bl_sb]
     obtain ⟨t1, ht1⟩ : ∃ t, sb pr = t := ⟨_, rfl⟩
     rw [ht1] at u0 z0
     obtain ⟨wA2, hwA2⟩ : ∃ W, wr.alloc (.cells #[.string t1, .int .i64 pl, .int .i64 ph, .int .u8 (pd : Int)] 53) = W := ⟨_, rfl⟩
     have ba : RowKit.Below wr.heap.size wr wA2 := by rw [← hwA2]; exact (RowKit.Below.refl _ _).alloc (Nat.le_refl _) _
     obtain ⟨q8, hq8⟩ : ∃ q, wr.heap.size = q := ⟨_, rfl⟩
     have XB2 : Hid (Bx q8 #[.string t1, .int .i64 pl, .int .i64 ph, .int .u8 (pd : Int)] 53 wA2) := by rw [← hwA2, ← hq8]; exact Bx.last wr _ _
     have BA2 := Lib.hid (Below.then_ hb.out ba)
     have HWA2 := Lib.hid hwA2
     have HQ8 := Lib.hid hq8
     have HLM := Lib.hid hlm
     have HFI2 : Hid (t1.size ≤ 255 → ∀ x ∈ ps.take (i + 1), x.ref.length ≤ 255) := fun h1 => HTA.out (by show pr.length ≤ 255; omega)
     clear hq8 hp hwA2 hb hs HR3 hil ba hlm ht1 HTA z0
     go_upto_region 18 with fail
     rw [HWA2.out, HQ8.out]
     clear HWA2 u0 u1 u2 u3
     have u0 := XB2.out.cell 0 (u := .string t1) rfl
     have ul := XB2.out.lt
     by_cases h1 : t1.size ≤ 255
     ·have e1 : ¬ (255 : Int) < (t1.size : Int) := by omega
      have HF := Lib.hid (HFI2.out h1)
      clear h1 HFI2
      go_wp2
      go_roundw
      case rel => exact ⟨i + 1, HLM.out, by go_num, BA2.out, HF.out⟩
      case measure => simp [RowKit.intOf]; omega
     ·have e1 : (255 : Int) < (t1.size : Int) := by omega
      have BF := Lib.hid (Below.then_ B9.out BA2.out)
      clear h1 HFI2
      go_wp2
      go_ret
      exact ⟨rfl, BF.out⟩
    ·have him : ¬ (i : Int) < (m : Int) := by omega
     have h := hs.out
     rw [List.take_of_length_le (by rw [HM.out]; omega)] at h
     have HF := Lib.hid (HF0.out h)
     clear h hs hlm
     go_wp2
     go_roundw
     case rel => exact ⟨k + 1, HLT.out, by go_num, hb.out, HF.out⟩
     case measure => simp [RowKit.intOf]; omega
   ·have e0 : (255 : Int) < (t0.size : Int) := by omega
    have BF := Lib.hid (Below.then_ B9.out BA.out)
    clear h0 HFIN
    go_wp2
    go_ret
    exact ⟨rfl, BF.out⟩
  ·have HAW : Hid (∀ x ∈ D3.aw, StA x) := by
    have h := hs.out
    rw [List.take_of_length_le (by rw [H3.out.2.1]; omega)] at h
    exact h
   have hki : ¬ (k : Int) < (na3 : Int) := by omega
   obtain ⟨WC, hWC⟩ : ∃ W, W = wr := ⟨_, rfl⟩
   subst hWC
   obtain ⟨⟨x0, x1, x2, x3, x4, x5, x6, x7, x8⟩, _⟩ := Bx.cells9 (HX9.out _ hb.out)
   have xl := (HX9.out _ hb.out).lt
   have HBB := Lib.hid hb.out
   clear hs hlt hk hb
   go_wp2_with fail
   go_loopw [66] (fun iv wr => ∃ (k : Nat), k ≤ np3 ∧ iv = .int .i64 (k : Int) ∧ Hid (RowKit.Below W9.heap.size W9 wr) ∧ Hid (∀ x ∈ D3.pr.take k, StP x)) (fun iv _ => np3 - (RowKit.intOf iv).toNat)
   case atStart => exact ⟨0, Nat.zero_le _, rfl, HBB.out, by unfold Hid; simp⟩
   case round =>
   clear x0 x1 x2 x3 x4 x5 x6 x7 x8 xl HBB hki
   obtain ⟨k, hk, rfl, hb, hs⟩ := hrel
   by_cases hlt : k < np3
   ·have hkl : k < D3.pr.length := by rw [H3.out.2.2]; exact hlt
    have HR2 := Lib.hid HV9.out.pr
    obtain ⟨g, o, c', pv, hA, hgl, hat, hap, hnm, hkd, hpa⟩ := PrcsR.at_ (by have := HR2.out; rw [← H3.out.2.2] at this; exact this : PrcsR W9 (.slice Bp D3.pr.length dp) D3.pr) hkl
    rw [H3.out.2.2] at hA
    simp only [Value.slice.injEq, true_and] at hA
    obtain ⟨rfl, rfl⟩ := hA
    have HTA := Lib.hid (fun h1 => take_all hkl hs.out h1)
    obtain ⟨x, hx⟩ : ∃ x, D3.pr[k] = x := ⟨_, rfl⟩
    rw [hx] at hat hkd hpa HTA
    obtain ⟨ap, nm, kd, pa⟩ := x
    simp only at hpa hkd
    obtain ⟨Av, cv, rfl, hcv, hmv⟩ := hpa.form
    unfold maxLen at hmv
    obtain ⟨m, hm⟩ : ∃ m, pa.length = m := ⟨_, rfl⟩
    have HPS := Lib.hid hpa
    obtain ⟨y0, y1, y2, y3⟩ := hat.below hgl hb.out
    simp only at y0 y1 y2
    rw [hm] at hcv y3 HPS
    have HM := Lib.hid hm
    have hgw : g < wr.heap.size := Nat.lt_of_lt_of_le hgl hb.out.size
    have hki : (k : Int) < (np3 : Int) := by omega
    have z0 : (sb ap).size = ap.length := by rw [← bl_len, bl_sb]
    have z1 : (sb nm).size = nm.length := by rw [← bl_len, bl_sb]
    obtain ⟨t0, ht0⟩ : ∃ t, sb ap = t := ⟨_, rfl⟩
    obtain ⟨t1, ht1⟩ : ∃ t, sb nm = t := ⟨_, rfl⟩
    rw [ht0] at y0 z0
    rw [ht1] at y1 z1
    obtain ⟨wA, hwA⟩ : ∃ W, wr.alloc (.cells #[.string t0, .string t1, .int .u8 (kd : Int), .slice Av m cv] 57) = W := ⟨_, rfl⟩
    have ba : RowKit.Below wr.heap.size wr wA := by rw [← hwA]; exact (RowKit.Below.refl _ _).alloc (Nat.le_refl _) _
    obtain ⟨qf, hqf⟩ : ∃ q, wr.heap.size = q := ⟨_, rfl⟩
    have XA : Hid (Bx qf #[.string t0, .string t1, .int .u8 (kd : Int), .slice Av m cv] 57 wA) := by rw [← hwA, ← hqf]; exact Bx.last wr _ _
    have BA := Lib.hid (Below.then_ hb.out ba)
    have HWA := Lib.hid hwA
    have HQF := Lib.hid hqf
    have HLT := Lib.hid hlt
    have HFIN : Hid (t0.size ≤ 255 → t1.size ≤ 255 → (∀ x ∈ pa, StX x) → ∀ x ∈ D3.pr.take (k + 1), StP x) := fun h1 h2 h3 => HTA.out ⟨⟨by show ap.length ≤ 255; omega, by show nm.length ≤ 255; omega⟩, h3⟩
    clear hqf hx hwA hb hs hpa hat HR2 hkl ba hlt ht0 ht1 HTA z0 z1 hm hnm hap hkd
    go_upto_region 25 with fail
    rw [HWA.out, HQF.out]
    clear HWA y0 y1 y2 y3
    have y0 := XA.out.cell 0 (u := .string t0) rfl
    have y1 := XA.out.cell 1 (u := .string t1) rfl
    have y3 := XA.out.cell 3 (u := .slice Av m cv) rfl
    have yl := XA.out.lt
    by_cases h0 : t0.size ≤ 255
    ·have e0 : ¬ (255 : Int) < (t0.size : Int) := by omega
     by_cases h1 : t1.size ≤ 255
     ·have e1 : ¬ (255 : Int) < (t1.size : Int) := by omega
      have HF0 := Lib.hid (HFIN.out h0 h1)
      clear h0 h1 HFIN
      go_wp2_with fail
      go_loopw [83] (fun iv wr => ∃ (i : Nat), i ≤ m ∧ iv = .int .i64 (i : Int) ∧ Hid (RowKit.Below W9.heap.size W9 wr) ∧ Hid (∀ x ∈ pa.take i, StX x)) (fun iv _ => m - (RowKit.intOf iv).toNat)
      case atStart => exact ⟨0, Nat.zero_le _, rfl, BA.out, by unfold Hid; simp⟩
      case round =>
      clear y0 y1 y3 yl XA BA e0 e1
      obtain ⟨i, hi, rfl, hb, hs⟩ := hrel
      by_cases hlm : i < m
      ·have hil : i < pa.length := by rw [HM.out]; exact hlm
       obtain ⟨g2, o2, c2', lv, hA2, hgl2, hpt, hxn, hxk, hlg⟩ := PasR.at_ (by have := HPS.out; rw [← HM.out] at this; exact this : PasR W9 (.slice Av pa.length cv) pa) hil
       rw [HM.out] at hA2
       simp only [Value.slice.injEq, true_and] at hA2
       obtain ⟨rfl, rfl⟩ := hA2
       have HTA := Lib.hid (fun h1 => take_all hil hs.out h1)
       obtain ⟨x, hx⟩ : ∃ x, pa[i] = x := ⟨_, rfl⟩
       rw [hx] at hpt hxk hlg HTA
       obtain ⟨xk, xn, lg⟩ := x
       simp only at hxk hlg
       obtain ⟨Al, cl, rfl, hcl, hml⟩ := hlg.form
       unfold maxLen at hml
       obtain ⟨M, hMe⟩ : ∃ M, lg.length = M := ⟨_, rfl⟩
       obtain ⟨u0, u1, u2⟩ := hpt.below hgl2 hb.out
       simp only at u0 u1
       have HLG := Lib.hid hlg
       rw [hMe] at u2 HLG hcl
       have HMM := Lib.hid hMe
       have hg2w : g2 < wr.heap.size := Nat.lt_of_lt_of_le hgl2 hb.out.size
       have him : (i : Int) < (m : Int) := by omega
       have z0 : (sb xn).size = xn.length := by rw [← bl_len, bl_sb]
       obtain ⟨t2, ht2⟩ : ∃ t, sb xn = t := ⟨_, rfl⟩
       rw [ht2] at u1 z0
       obtain ⟨wA2, hwA2⟩ : ∃ W, wr.alloc (.cells #[.int .u8 (xk : Int), .string t2, .slice Al M cl] 62) = W := ⟨_, rfl⟩
       have ba : RowKit.Below wr.heap.size wr wA2 := by rw [← hwA2]; exact (RowKit.Below.refl _ _).alloc (Nat.le_refl _) _
       obtain ⟨q8, hq8⟩ : ∃ q, wr.heap.size = q := ⟨_, rfl⟩
       have XB2 : Hid (Bx q8 #[.int .u8 (xk : Int), .string t2, .slice Al M cl] 62 wA2) := by rw [← hwA2, ← hq8]; exact Bx.last wr _ _
       have BA2 := Lib.hid (Below.then_ hb.out ba)
       have HWA2 := Lib.hid hwA2
       have HQ8 := Lib.hid hq8
       have HLM := Lib.hid hlm
       have HFI2 : Hid (t2.size ≤ 255 → (∀ g ∈ lg, g.fi.length ≤ 255 ∧ g.ce.length ≤ 255) → ∀ x ∈ pa.take (i + 1), StX x) := fun h1 h2 => HTA.out ⟨by show xn.length ≤ 255; omega, h2⟩
       clear hq8 hx hwA2 hb hs hil ba hlm ht2 HTA z0 hlg hpt hxn hxk hMe
       go_upto_region 30 with fail
       rw [HWA2.out, HQ8.out]
       clear HWA2 u0 u1 u2
       have kq1 := XB2.out.cell 1 (u := .string t2) rfl
       have kq2 := XB2.out.cell 2 (u := .slice Al M cl) rfl
       have kql := XB2.out.lt
       by_cases h2 : t2.size ≤ 255
       ·have e2 : ¬ (255 : Int) < (t2.size : Int) := by omega
        have HF1 := Lib.hid (HFI2.out h2)
        clear h2 HFI2
        go_wp2_with fail
        go_loopw [94] (fun iv wr => ∃ (j : Nat), j ≤ M ∧ iv = .int .i64 (j : Int) ∧ Hid (RowKit.Below W9.heap.size W9 wr) ∧ Hid (∀ x ∈ lg.take j, x.fi.length ≤ 255 ∧ x.ce.length ≤ 255)) (fun iv _ => M - (RowKit.intOf iv).toNat)
        case atStart => exact ⟨0, Nat.zero_le _, rfl, BA2.out, by unfold Hid; simp⟩
        case round =>
        clear kq1 kq2 kql XB2 BA2 e2
        obtain ⟨j, hj, rfl, hb, hs⟩ := hrel
        by_cases hlj : j < M
        ·have hjl : j < lg.length := by rw [HMM.out]; exact hlj
         obtain ⟨g3, o3, c3', hA3, hgl3, hat3, hok3⟩ := LgsR.at_ (by have := HLG.out; rw [← HMM.out] at this; exact this : LgsR W9 (.slice Al lg.length cl) lg) hjl
         rw [HMM.out] at hA3
         simp only [Value.slice.injEq, true_and] at hA3
         obtain ⟨rfl, rfl⟩ := hA3
         have HTA := Lib.hid (fun h1 => take_all (P := fun x : Lg => x.fi.length ≤ 255 ∧ x.ce.length ≤ 255) hjl hs.out h1)
         obtain ⟨l, hl⟩ : ∃ l, lg[j] = l := ⟨_, rfl⟩
         rw [hl] at hat3 hok3 HTA
         have HAT : Hid (∀ t u, (lgc l)[t]? = some u → wr.cell? ⟨g3, o3 + j * 13 + t, none⟩ = some u) := fun t u hu => (hb.out.cell (p := ⟨g3, o3 + j * 13 + t, none⟩) hgl3).trans (hat3 t u hu)
         have HONE := Lib.hid (lgc_one l)
         have hjM : (j : Int) < (M : Int) := by omega
         obtain ⟨q9, hq9⟩ : ∃ q, wr.heap.size = q := ⟨_, rfl⟩
         obtain ⟨wJ, hwJ⟩ : ∃ W, wr.alloc (.cells (lgc l).toArray 65) = W := ⟨_, rfl⟩
         have ba : RowKit.Below wr.heap.size wr wJ := by rw [← hwJ]; exact (RowKit.Below.refl _ _).alloc (Nat.le_refl _) _
         have XJ : Hid (Bx q9 (lgc l).toArray 65 wJ) := by rw [← hwJ, ← hq9]; exact Bx.last wr _ _
         have BJ := Lib.hid (Below.then_ hb.out ba)
         have HWJ := Lib.hid hwJ
         have HQ9 := Lib.hid hq9
         have HLJ := Lib.hid hlj
         have hg3w : g3 < wr.heap.size := Nat.lt_of_lt_of_le hgl3 hb.out.size
         have z0 : (sb l.fi).size = l.fi.length := by rw [← bl_len, bl_sb]
         have z1 : (sb l.ce).size = l.ce.length := by rw [← bl_len, bl_sb]
         obtain ⟨t3, ht3⟩ : ∃ t, sb l.fi = t := ⟨_, rfl⟩
         obtain ⟨t4, ht4⟩ : ∃ t, sb l.ce = t := ⟨_, rfl⟩
         have v1 : Hid (wJ.cell? ⟨q9, 1, none⟩ = some (.string t3)) := by rw [← ht3]; exact Bx.cell XJ.out 1 rfl
         have v2 : Hid (wJ.cell? ⟨q9, 2, none⟩ = some (.string t4)) := by rw [← ht4]; exact Bx.cell XJ.out 2 rfl
         rw [ht3] at z0
         rw [ht4] at z1
         have HFI3 : Hid (t3.size ≤ 255 → t4.size ≤ 255 → ∀ x ∈ lg.take (j + 1), x.fi.length ≤ 255 ∧ x.ce.length ≤ 255) := fun h1 h2 => HTA.out ⟨by omega, by omega⟩
         clear hat3 hok3 hl hwJ hq9 hb hs ba hlj hjl HTA z0 z1 ht3 ht4
         go_upto_region 35 with (first | (with_reducible refine wpList_load_wide rfl 65 (.tmp 96) rfl g3 (o3 + j * 13) rfl (lgc l) 13 rfl (aggLegD _) (sizeLegD _) HAT.out ?_) | (refine wpList_store_last wr _ rfl 65 (.tmp 14) (.tmp 97) rfl rfl (lgc l) rfl infoLegSD rfl HONE.out ?_))
         rw [HWJ.out, HQ9.out]
         clear HWJ HAT
         have v1 := v1.out
         have v2 := v2.out
         have vl := XJ.out.lt
         by_cases h3 : t3.size ≤ 255
         ·have e3 : ¬ (255 : Int) < (t3.size : Int) := by omega
          by_cases h4 : t4.size ≤ 255
          ·have e4 : ¬ (255 : Int) < (t4.size : Int) := by omega
           have HF := Lib.hid (HFI3.out h3 h4)
           clear h3 h4 HFI3
           go_wp2
           go_roundw
           case rel => exact ⟨j + 1, HLJ.out, by go_num, BJ.out, HF.out⟩
           case measure => simp [RowKit.intOf]; omega
          ·have e4 : (255 : Int) < (t4.size : Int) := by omega
           have BF := Lib.hid (Below.then_ B9.out BJ.out)
           clear h3 h4 HFI3
           go_wp2
           go_ret
           exact ⟨rfl, BF.out⟩
         ·have e3 : (255 : Int) < (t3.size : Int) := by omega
          have BF := Lib.hid (Below.then_ B9.out BJ.out)
          clear h3 HFI3
          go_wp2
          go_ret
          exact ⟨rfl, BF.out⟩
        ·have hjM : ¬ (j : Int) < (M : Int) := by omega
         have h := hs.out
         rw [List.take_of_length_le (by rw [HMM.out]; omega)] at h
         have HF := Lib.hid (HF1.out h)
         clear h hs hlj
         go_wp2
         go_roundw
         case rel => exact ⟨i + 1, HLM.out, by go_num, hb.out, HF.out⟩
         case measure => simp [RowKit.intOf]; omega
       ·have e2 : (255 : Int) < (t2.size : Int) := by omega
        have BF := Lib.hid (Below.then_ B9.out BA2.out)
        clear h2 HFI2
        go_wp2
        go_ret
        exact ⟨rfl, BF.out⟩
      ·have him : ¬ (i : Int) < (m : Int) := by omega
       have h := hs.out
       rw [List.take_of_length_le (by rw [HM.out]; omega)] at h
       have HF := Lib.hid (HF0.out h)
       clear h hs hlm
       go_wp2
       go_roundw
       case rel => exact ⟨k + 1, HLT.out, by go_num, hb.out, HF.out⟩
       case measure => simp [RowKit.intOf]; omega
     ·have e1 : (255 : Int) < (t1.size : Int) := by omega
      have BF := Lib.hid (Below.then_ B9.out BA.out)
      clear h0 h1 HFIN
      go_wp2
      go_ret
      exact ⟨rfl, BF.out⟩
    ·have e0 : (255 : Int) < (t0.size : Int) := by omega
     have BF := Lib.hid (Below.then_ B9.out BA.out)
     clear h0 HFIN
     go_wp2
     go_ret
     exact ⟨rfl, BF.out⟩
   ·have HPR : Hid (∀ x ∈ D3.pr, StP x) := by
     have h := hs.out
     rw [List.take_of_length_le (by rw [H3.out.2.2]; omega)] at h
     exact h
    have hki : ¬ (k : Int) < (np3 : Int) := by omega
    obtain ⟨WD, hWD⟩ : ∃ W, W = wr := ⟨_, rfl⟩
    subst hWD
    have BWD := Lib.hid hb.out
    have z0 : (sb D3.hd.nm).size = D3.hd.nm.length := by rw [← bl_len, bl_sb]
    have XD := HX9.out _ hb.out
    obtain ⟨tn, htn⟩ : ∃ t, sb D.hd.nm = t := ⟨_, rfl⟩
    have x0 := XD.cell 0 (u := .string tn) (by rw [← htn]; rfl)
    have xl := XD.lt
    have z1 : tn.size = D3.hd.nm.length := by rw [← htn, ← HH3.out]; exact z0
    have HAll : Hid (tn.size ≤ 255 → DbB D3 ∧ (dbB D3).length ≤ 900000) := fun h => HBD.out ⟨HFX.out, HAW.out, HPR.out⟩ (by omega)
    have XDD := Lib.hid XD
    have HTN := Lib.hid htn
    clear hs hlt hk hb z0 z1 XD htn HBD HFX HAW HPR
    by_cases h0 : tn.size ≤ 255
    ·have e0 : ¬ (255 : Int) < (tn.size : Int) := by omega
     have HDL := Lib.hid (HAll.out h0)
     have VD := Lib.hid (HV9.out.below BWD.out)
     have BD := Lib.hid (Below.then_ B9.out BWD.out)
     have hby := rbytes_any D3 _ _ _ WD VD.out HDL.out.1 HDL.out.2
     rw [HH3.out, dbA_eq] at hby
     have XD := XDD.out
     clear h0 HAll
     go_upto_region 42 with fail
     clear e0 hki x0 xl
     obtain ⟨⟨x0, x1, x2, x3, x4, x5, x6, x7, x8⟩, _⟩ := Bx.cells9 XD
     have xl := XD.lt
     unfold dbA at hby
     have HBY := Lib.hid hby
     clear hby XD
     go_wp2_with fail
     refine HBY.out.mono ?_
     rintro e w4 ⟨r, rfl, hnew⟩
     obtain ⟨gb, cc, rfl, hcc, hcm, -, hba, hb4⟩ := hnew
     have B4 := Lib.hid (Below.then_ BD.out hb4)
     have hok := HDL.out.1
     have hbd := HDL.out.2
     have hso := seal_ok (dbB D3)
     have hls : (sealL (dbB D3)).length = (dbB D3).length + 4 := by unfold sealL; rw [List.length_append]; rfl
     have hres : rdRes (sealL (dbB D3)) = (0, D3.hd, dbSecs D3) := rdRes_some (by omega) hso.1 (by rw [hso.2]; exact rdF_db hok hbd)
     have hdb : dbOfL ((sealL (dbB D3)).take ((sealL (dbB D3)).length - 4)) (dbSecs D3) = D3 := by rw [hso.2]; exact dbOfL_db hok hbd
     have hL1 : (sealL (dbB D3)).length ≤ 1000000 := by omega
     have V4 : BsV w4 (.slice (some ⟨gb, 0, none⟩) (sealL (dbB D3)).length cc) (sealL (dbB D3)) := ⟨_, cc, rfl, hcc, hcm, fun _ => ⟨gb, 0, rfl, hba⟩⟩
     have hde := decode_ok _ _ D3 _ w4 (HT.out.below B4.out) V4 hL1 hres hdb HSZ.out
     have X4 := Lib.hid (XDD.out.via hb4)
     have VD4 := Lib.hid (VD.out.below hb4)
     obtain ⟨M, hM⟩ : ∃ M, (sealL (dbB D3)).length = M := ⟨_, rfl⟩
     rw [hM] at hde ⊢
     have HDE := Lib.hid hde
     clear hcc hcm hba hb4 hok hbd hso hls hres hdb hL1 V4 hde hM HBY x0 x1 x2 x3 x4 x5 x6 x7 x8 xl VD BD HDL
     go_wp2_with fail
     refine HDE.out.mono ?_
     rintro e w5 ⟨hb5, ⟨hne, rfl⟩ | ⟨hz0, f5, a5, p5, rfl, hv5⟩⟩
     ·obtain ⟨x, hx⟩ : ∃ x, dbE D3 = x := ⟨_, rfl⟩
      rw [hx]
      obtain ⟨w6, hw6⟩ : ∃ W, w5.alloc (.cells dbZ9 30) = W := ⟨_, rfl⟩
      have hb56 : RowKit.Below w5.heap.size w5 w6 := by rw [← hw6]; exact (RowKit.Below.refl _ _).alloc (Nat.le_refl _) _
      have hb46 := Below.then_ hb5 hb56
      have B6 := Lib.hid (Below.then_ B4.out hb46)
      have X6 := X4.out.via hb46
      have hck := dbCheck_any D3 _ _ _ w6 (HT.out.below B6.out) (VD4.out.below hb46) HSZ.out
      rw [HH3.out, dbA_eq] at hck
      rw [hx] at hck
      unfold dbA at hck
      unfold dbZ9 at hw6 ⊢
      have HCK := Lib.hid hck
      have HW6 := Lib.hid hw6
      have X6H := Lib.hid X6
      clear hb5 hb56 hb46 hw6 hck X6 X4 VD4 B4 XDD HV9 HX9 HDE
      go_upto_region 43 with fail
      rw [HW6.out]
      clear HW6
      obtain ⟨⟨x0, x1, x2, x3, x4, x5, x6, x7, x8⟩, _⟩ := Bx.cells9 X6H.out
      have xl := X6H.out.lt
      go_wp2_with fail
      refine HCK.out.mono ?_
      rintro e w7 ⟨rfl, hb7⟩
      have B7 := Lib.hid (Below.then_ B6.out hb7)
      clear HCK hb7 x0 x1 x2 x3 x4 x5 x6 x7 x8 xl X6H
      go_wp2
      go_ret
      exact ⟨rfl, B7.out⟩
     ·obtain ⟨Cf, kf, hcf5, -, -⟩ := hv5.fx.1.form
      obtain ⟨Ca, ka, hca5, -, -⟩ := hv5.aw.form
      obtain ⟨Cp, kp, hcp5, -, -⟩ := hv5.pr.form
      subst hcf5 hca5 hcp5
      rw [dbI_dbA]
      obtain ⟨w6, hw6⟩ : ∃ W, w5.alloc (.cells (dbA D3.hd (.slice Cf D3.fx.length kf) (.slice Ca D3.aw.length ka) (.slice Cp D3.pr.length kp)) 30) = W := ⟨_, rfl⟩
      have hb56 : RowKit.Below w5.heap.size w5 w6 := by rw [← hw6]; exact (RowKit.Below.refl _ _).alloc (Nat.le_refl _) _
      have hb46 := Below.then_ hb5 hb56
      have B6 := Lib.hid (Below.then_ B4.out hb46)
      have X6 := X4.out.via hb46
      have hck := dbCheck_any D3 _ _ _ w6 (HT.out.below B6.out) (VD4.out.below hb46) HSZ.out
      rw [HH3.out, dbA_eq] at hck
      rw [hz0] at hck
      unfold dbA at hck
      unfold dbA at hw6 ⊢
      clear hv5
      have HCK := Lib.hid hck
      have HW6 := Lib.hid hw6
      have X6H := Lib.hid X6
      clear hb5 hb56 hb46 hw6 hck X6 X4 VD4 B4 XDD HV9 HX9 HDE
      go_upto_region 43 with fail
      rw [HW6.out]
      clear HW6
      obtain ⟨⟨x0, x1, x2, x3, x4, x5, x6, x7, x8⟩, _⟩ := Bx.cells9 X6H.out
      have xl := X6H.out.lt
      go_wp2_with fail
      refine HCK.out.mono ?_
      rintro e w7 ⟨rfl, hb7⟩
      have B7 := Lib.hid (Below.then_ B6.out hb7)
      clear HCK hb7 x0 x1 x2 x3 x4 x5 x6 x7 x8 xl X6H
      go_wp2
      go_ret
      exact ⟨rfl, B7.out⟩
    ·have e0 : (255 : Int) < (tn.size : Int) := by omega
     have BF := Lib.hid (Below.then_ B9.out BWD.out)
     clear h0 HAll
     go_wp2
     go_ret
     exact ⟨rfl, BF.out⟩
end Go.Proofs.YtlhniiakacbbeaaGreatDoor
