/-
  Contract: image.read of any bytes, with the database that is read.
-/
import Derived.Test.YtlhniiakacbbeaaGreatDoorMG08
import Derived.Test.YtlhniiakacbbeaaGreatDoorMG10
namespace Go.Proofs.YtlhniiakacbbeaaGreatDoor
open Go.RowKit
set_option linter.unusedVariables false
set_option linter.unusedSimpArgs false
def ImReadPostS (bs : List UInt8) (w : World) (e : Ending) (w' : World) : Prop :=
 ∃ (f a p sv : Value) (nf na np : Nat), e = .returned (.tuple #[.agg (dbI (rdRes bs).2.1 f a p), sv, .int .i64 (rdRes bs).1]) ∧ Rd w' 4 sv (rdRes bs).2.2.length (seccells (rdRes bs).2.2) ∧ LF f nf ∧ LF a na ∧ LF p np ∧ ((rdRes bs).1 = 0 → (rdRes bs).2.2.map (·.2.2.2) = [1, nf, na, np]) ∧ Below w.heap.size w w' ∧ ((rdRes bs).1 = 0 → DbV w' f a p (dbOfL (bs.take (bs.length - 4)) (rdRes bs).2.2))
theorem ImReadPostS.err {bs : List UInt8} {w w' : World} {x : Int} (h : rdRes bs = (x, hd0, [])) (hx : x ≠ 0) (hb : Below w.heap.size w w') : ImReadPostS bs w (.returned (.tuple #[.agg dbZ9, .slice none 0 0, .int .i64 x])) w' := by
 refine ⟨.slice none 0 0, .slice none 0 0, .slice none 0 0, .slice none 0 0, 0, 0, 0, ?_, ?_, LF.nil, LF.nil, LF.nil, fun h0 => ?_, hb, fun h0 => ?_⟩
 ·rw [h]; rfl
 ·rw [h]; exact Rd.nil _ _
 ·rw [h] at h0; exact absurd h0 hx
 ·rw [h] at h0; exact absurd h0 hx
set_option maxRecDepth 100000 in
set_option maxHeartbeats 16000000 in
theorem imReadS_any (v : Value) (bs : List UInt8) (w : World) (h : BsV w v bs) (hL : bs.length ≤ 1000000) :
  Calls Tryz.prog 71 #[v] w (ImReadPostS bs w) := by
 obtain ⟨w0, hw0⟩ : ∃ W, w.alloc (.cells #[.string ⟨#[]⟩, .int .i64 0, .int .i64 0, .int .i64 0, .int .i64 0, .int .i64 0, .slice none 0 0, .slice none 0 0, .slice none 0 0] 30) = W := ⟨_, rfl⟩
 have hb0 : Below w.heap.size w w0 := by rw [← hw0]; exact (Below.refl _ _).alloc (Nat.le_refl _) _
 have B0 := Lib.hid hb0
 have X0 : Hid (Bx w.heap.size #[.string ⟨#[]⟩, .int .i64 0, .int .i64 0, .int .i64 0, .int .i64 0, .int .i64 0, .slice none 0 0, .slice none 0 0, .slice none 0 0] 30 w0) := by rw [← hw0]; exact Bx.last _ _ _
 have hop := copen_any v bs w0 (h.below hb0) hL
 obtain ⟨A, c, rfl, -, -, -⟩ := h
 obtain ⟨q0, hq⟩ : ∃ q, w.heap.size = q := ⟨_, rfl⟩
 rw [hq] at X0
 have HQ := Lib.hid hq
 have hs0 : w0.heap.size = q0 + 1 := by rw [← hw0, World.size_alloc, hq]
 have HS0 := Lib.hid hs0
 have HL := Lib.hid hL
 obtain ⟨N, hN⟩ : ∃ N, bs.length = N := ⟨_, rfl⟩
 rw [hN]
 have HN := Lib.hid hN
 have HW0 := Lib.hid hw0
 clear hb0 hq hs0 hL hN hw0
 go_enter Tryz.func71, Tryz.ntmps71
 go_wp2_with fail
 rw [HW0.out, HQ.out, ← HN.out]
 clear HW0
 refine hop.mono ?_
 rintro e w1 (⟨h4, rfl, hb⟩ | ⟨h4, ho, rfl, hb⟩ | ⟨h4, ho, v1, rfl, hn⟩)
 ·have B1 : Hid (Below w.heap.size w w1) := Below.then_ B0.out hb
  have HP : Hid (∀ W, Below w.heap.size w W → ImReadPostS bs w (.returned (.tuple #[.agg dbZ9, .slice none 0 0, .int .i64 4])) W) := fun W hW => ImReadPostS.err (rdRes_short h4) (by decide) hW
  have X1 : Hid (Bx q0 #[.string ⟨#[]⟩, .int .i64 0, .int .i64 0, .int .i64 0, .int .i64 0, .int .i64 0, .slice none 0 0, .slice none 0 0, .slice none 0 0] 30 w1) := X0.out.via hb
  clear hop B0 X0 h4 hb
  have XO : Hid (Bx q0 #[.string ⟨#[]⟩, .int .i64 0, .int .i64 0, .int .i64 0, .int .i64 0, .int .i64 0, .slice none 0 0, .slice none 0 0, .slice none 0 0] 30 _) := X1.out
  go_wp2_with (refine wpList_plain rfl fun _ hK => wp_store_row 30 (.tmp 2) (.tmp 21) rfl q0 dbZ9 rfl rfl 30 _ XO.out infoDB9 rfl dbZ9_one (hK _ _ ?_))
  have FX : Bx q0 #[.string ⟨#[]⟩, .int .i64 0, .int .i64 0, .int .i64 0, .int .i64 0, .int .i64 0, .slice none 0 0, .slice none 0 0, .slice none 0 0] 30 _ := setRow_heap _ q0 _ dbZ9 30 (0, 0) XO.out
  obtain ⟨⟨x0, x1, x2, x3, x4, x5, x6, x7, x8⟩, _⟩ := Bx.cells9 FX
  refine bodyPost_ret (v := .tuple #[.agg dbZ9, .slice none 0 0, .int .i64 4]) (by simp [results, Tryz.results71, go_sem, x0, x1, x2, x3, x4, x5, x6, x7, x8]; try rfl) rfl ?_
  exact HP.out _ (row_below B1.out HQ.out)
 ·have B1 : Hid (Below w.heap.size w w1) := Below.then_ B0.out hb
  have HP : Hid (∀ W, Below w.heap.size w W → ImReadPostS bs w (.returned (.tuple #[.agg dbZ9, .slice none 0 0, .int .i64 12])) W) := fun W hW => ImReadPostS.err (rdRes_sum h4 ho) (by decide) hW
  have X1 : Hid (Bx q0 #[.string ⟨#[]⟩, .int .i64 0, .int .i64 0, .int .i64 0, .int .i64 0, .int .i64 0, .slice none 0 0, .slice none 0 0, .slice none 0 0] 30 w1) := X0.out.via hb
  clear hop B0 X0 h4 hb ho
  have XO : Hid (Bx q0 #[.string ⟨#[]⟩, .int .i64 0, .int .i64 0, .int .i64 0, .int .i64 0, .int .i64 0, .slice none 0 0, .slice none 0 0, .slice none 0 0] 30 _) := X1.out
  go_wp2_with (refine wpList_plain rfl fun _ hK => wp_store_row 30 (.tmp 2) (.tmp 21) rfl q0 dbZ9 rfl rfl 30 _ XO.out infoDB9 rfl dbZ9_one (hK _ _ ?_))
  have FX : Bx q0 #[.string ⟨#[]⟩, .int .i64 0, .int .i64 0, .int .i64 0, .int .i64 0, .int .i64 0, .slice none 0 0, .slice none 0 0, .slice none 0 0] 30 _ := setRow_heap _ q0 _ dbZ9 30 (0, 0) XO.out
  obtain ⟨⟨x0, x1, x2, x3, x4, x5, x6, x7, x8⟩, _⟩ := Bx.cells9 FX
  refine bodyPost_ret (v := .tuple #[.agg dbZ9, .slice none 0 0, .int .i64 12]) (by simp [results, Tryz.results71, go_sem, x0, x1, x2, x3, x4, x5, x6, x7, x8]; try rfl) rfl ?_
  exact HP.out _ (row_below B1.out HQ.out)
 ·have HOK : Hid (∀ x l, rdF (bs.take (bs.length - 4)) = some (x, l) → rdRes bs = (0, x, l)) := fun x l hr => rdRes_some h4 ho hr
  have HP : Hid (rdF (bs.take (bs.length - 4)) = none → ∀ W, Below w.heap.size w W → ImReadPostS bs w (.returned (.tuple #[.agg dbZ9, .slice none 0 0, .int .i64 4])) W) := fun hr W hW => ImReadPostS.err (rdRes_none h4 ho hr) (by decide) hW
  obtain ⟨body, hbd⟩ : ∃ b, bs.take (bs.length - 4) = b := ⟨_, rfl⟩
  have HBO := Lib.hid hbd
  have hbl : body.length ≤ 1000000 := by rw [← hbd, List.length_take]; have := HL.out; omega
  rw [hbd] at HOK HP hn
  obtain ⟨gb, cb, rfl, hcb, hmb, hgb, hba, hb1⟩ := hn
  have B1 : Hid (Below w.heap.size w w1) := Below.then_ B0.out hb1
  have X1 : Hid (Bx q0 #[.string ⟨#[]⟩, .int .i64 0, .int .i64 0, .int .i64 0, .int .i64 0, .int .i64 0, .slice none 0 0, .slice none 0 0, .slice none 0 0] 30 w1) := X0.out.via hb1
  have hgl : gb < w1.heap.size := hba.1
  obtain ⟨w2, hw2⟩ : ∃ W, w1.alloc (.cells #[.slice (some ⟨gb, 0, none⟩) body.length cb, .int .i64 0, .int .i64 (body.length : Int), .bool false] 210) = W := ⟨_, rfl⟩
  have hb2 : Below w1.heap.size w1 w2 := by rw [← hw2]; exact (Below.refl _ _).alloc (Nat.le_refl _) _
  obtain ⟨q1, hq1⟩ : ∃ q, w1.heap.size = q := ⟨_, rfl⟩
  have R2 : Hid (RdP q1 gb 0 cb body.length body (0, false) w2) := by
   refine ⟨by rw [← hw2, ← hq1]; exact (Bx.last w1 _ _ : Bx w1.heap.size (rdPc gb 0 body.length cb body.length (0, false)) _ _), hba.below hb2, by omega, Nat.zero_le _, Nat.le_refl _, hcb, hmb⟩
  have B2 : Hid (Below w.heap.size w w2) := Below.then_ B1.out hb2
  have X2 : Hid (Bx q0 #[.string ⟨#[]⟩, .int .i64 0, .int .i64 0, .int .i64 0, .int .i64 0, .int .i64 0, .slice none 0 0, .slice none 0 0, .slice none 0 0] 30 w2) := X1.out.via hb2
  have ho1 : q0 < gb := by have := HS0.out; omega
  have ho2 : gb < q1 := by omega
  obtain ⟨nb, hnb⟩ : ∃ n, body.length = n := ⟨_, rfl⟩
  rw [hnb] at hcb hbl ⊢
  have HNB := Lib.hid hnb
  rw [hnb] at hw2
  have HW2 := Lib.hid hw2
  have HQ1 := Lib.hid hq1
  clear hop B0 X0 h4 ho hb1 hba hb2 hw2 hq1 X1 B1 hgb hgl hbd
  go_wp2_with fail
  rw [HW2.out, HQ1.out]
  clear HW2 HQ1
  have ht := imTake_any (0, false) 4 w2 R2.out (by omega)
  refine ht.mono ?_
  rintro e w3 ⟨⟨vt, rfl, hv⟩, hr⟩
  have hcv := bsv_string hv
  obtain ⟨Av, cv, hvv, -, -, -⟩ := hv
  have X3 : Hid (Bx q0 #[.string ⟨#[]⟩, .int .i64 0, .int .i64 0, .int .i64 0, .int .i64 0, .int .i64 0, .slice none 0 0, .slice none 0 0, .slice none 0 0] 30 w3) := (hr.f.block q0 X2.out.lt (by omega)).trans X2.out
  have B3 : Hid (Below w.heap.size w w3) := B2.out.trans (hr.f.below (by have := B2.out.size; omega) (fun k hk => by have := HQ.out; omega))
  have HR3 := Lib.hid hr
  obtain ⟨l, hl⟩ : ∃ l, tkV body body.length 4 (0, false) = l := ⟨_, rfl⟩
  rw [hl] at hcv hvv
  have HLL := Lib.hid hl
  clear ht hr hl X2 B2 R2
  by_cases hmg : l = magicL
  ·subst hmg
   have hmm := magic_of HLL.out
   have e1 : ((sb magicL).toList == [70, 68, 66, 49]) = true := by rw [bl_toList, bl_sb]; rfl
   have HMG := Lib.hid hmm
   clear hmm
   rw [HMG.out.2] at HR3
   obtain ⟨w4, hw4⟩ : ∃ W, w3.alloc (.cells #[.string ⟨#[]⟩, .int .i64 0, .int .i64 0, .int .i64 0, .int .i64 0, .int .i64 0, .slice none 0 0, .slice none 0 0, .slice none 0 0] 30) = W := ⟨_, rfl⟩
   have hb4 : Below w3.heap.size w3 w4 := by rw [← hw4]; exact (Below.refl _ _).alloc (Nat.le_refl _) _
   obtain ⟨q2, hq2⟩ : ∃ q, w3.heap.size = q := ⟨_, rfl⟩
   have hB : w4.heap.size = q2 + 1 := by rw [← hw4, World.size_alloc, hq2]
   obtain ⟨B, hBq⟩ : ∃ B, q2 + 1 = B := ⟨_, rfl⟩
   rw [hBq] at hB
   have ho3 : q1 < q2 := by rw [← hq2]; exact HR3.out.r.lt
   have ho1' : w.heap.size < gb := by rw [HQ.out]; exact ho1
   have HI : Hid (RdI w q1 q2 gb 0 cb B body #[.string ⟨#[]⟩, .int .i64 0, .int .i64 0, .int .i64 0, .int .i64 0, .int .i64 0, .slice none 0 0, .slice none 0 0, .slice none 0 0] (4, false) (.slice none 0 0) [] w4) :=
    ⟨(by rw [HQ.out]; exact X3.out.via hb4), HR3.out.r.below hb4, (by rw [← hw4, ← hq2]; exact Bx.last _ _ _), World.ownsRow_nil _ _ _ _, Below.then_ B3.out hb4, ho1', ho2, ho3, by omega, by omega⟩
   have HGO : Hid (rdF body = (rdG body 4 1 4).map fun l => (imHdF body, l)) := by unfold Hid rdF; rw [if_pos HMG.out.1]
   have HW4 := Lib.hid hw4
   have HQ2 := Lib.hid hq2
   subst hvv
   clear hw4 hq2 hb4 hB HR3 X3 B3 HLL ho1 ho1' HMG
   go_wp2_with fail
   rw [HW4.out, HQ2.out]
   clear HW4 HQ2
   obtain ⟨i0, hi0, hz0, hz1, hz2⟩ := info_parts infoSecI
   go_loopw [9, 10] (fun sv tv wr => ∃ (k a : Nat) (L : List Sec) (db : Array Value), k ≤ 4 ∧ tv = .int .u8 ((k : Int) + 1) ∧ Hid (RdI w q1 q2 gb 0 cb B body db (a, false) sv L wr) ∧ Hid (DbK body k db L) ∧ Hid (rdG body 4 1 4 = (rdG body (4 - k) (k + 1) a).map (L ++ ·)) ∧ Hid (L.length = k) ∧ Hid (k = 0 → a = 4) ∧ Hid (ConS B body db L wr)) (fun _ tv _ => 5 - (intOf tv).toNat)
   case atStart => exact ⟨0, 4, [], _, by omega, rfl, HI.out, ⟨_, _, _, 0, 0, 0, rfl, LF.nil, LF.nil, LF.nil, fun _ => rfl, fun _ => rfl, fun _ => rfl, rfl⟩, by unfold Hid; simp, rfl, fun _ => rfl, ConS.nil (by simp)⟩
   case round =>
    obtain ⟨k, a, L, db, hk, rfl, hi, hdk, hgo, hLk, hka, hcs⟩ := hrel
    obtain ⟨As, ns, cs, rfl⟩ := own_form hi.out.own
    have k3 := hi.out.rd.bx.cell 3 (u := .bool false) rfl
    clear HI
    by_cases hk4 : k = 4
    ·subst hk4
     have ka := hi.out.rd.bx.cell 1 (u := .int .i64 (a : Int)) rfl
     have ks := hi.out.rd.bx.cell 2 (u := .int .i64 (body.length : Int)) rfl
     rw [HNB.out] at ks
     have HG0 : Hid (rdG body 4 1 4 = (if a = body.length then some [] else none : Option (List Sec)).map (L ++ ·)) := hgo.out
     by_cases hae : a = nb
     ·have e9 : ((a : Int) == (nb : Int)) = true := by rw [beq_iff_eq]; omega
      have p9 : ((a : Int) != (nb : Int)) = false := by rw [bne, e9]; rfl
      have HF : Hid (rdF body = some (imHdF body, L)) := by unfold Hid; rw [HGO.out, HG0.out, if_pos (by rw [HNB.out]; exact hae)]; simp
      have HR := Lib.hid (HOK.out _ _ HF.out)
      clear hgo HG0 HP HOK HF
      go_wp2_with fail
      go_quiet (fail)
      have I9 : Hid (RdI w q1 q2 gb 0 cb B body db (a, false) (.slice As ns cs) L (wr.drewN nq)) := hi.out.below (below_drewN' (Below.refl _ _) nq)
      have Z9 := Lib.hid (hcs.out.tf (TFrm.of_below (below_drewN' (Below.refl _ _) nq)))
      obtain ⟨wq, hwq⟩ : ∃ W, wr.drewN nq = W := ⟨_, rfl⟩
      rw [hwq] at I9 Z9 ⊢
      obtain ⟨f, av, pv, nf, na, np, hdb, hf, hav, hpv, -, -, -, hmap⟩ := hdk.out.ex
      rw [if_neg (by decide)] at hdb
      rw [hdb] at Z9
      have HPO : Hid (∀ W, Below w.heap.size w W → Rd W 4 (.slice As ns cs) L.length (seccells L) → DbV W f av pv (dbOfL body L) → ImReadPostS bs w (.returned (.tuple #[.agg (dbL (imHdF body) f av pv).toArray, .slice As ns cs, .int .i64 0])) W) := fun W hW hrd hdv => by
       refine ⟨f, av, pv, .slice As ns cs, nf, na, np, by rw [HR.out]; rfl, by rw [HR.out]; exact hrd, hf, hav, hpv, fun _ => by rw [HR.out]; exact hmap, hW, fun _ => by rw [HR.out, HBO.out]; exact hdv⟩
      have XD : Hid (Bx q2 (dbL (imHdF body) f av pv).toArray 30 wq) := by have := I9.out.dbx; rw [hdb] at this; exact this
      have hone := dbL_one (imHdF body) hf hav hpv
      have hcl : (dbL (imHdF body) f av pv).length = 9 := rfl
      obtain ⟨CS, hCS⟩ : ∃ l, dbL (imHdF body) f av pv = l := ⟨_, rfl⟩
      rw [hCS] at HPO XD hone hcl
      have HON := Lib.hid hone
      have HCL := Lib.hid hcl
      have HCS : Hid (∀ j u, CS[j]? = some u → wq.cell? ⟨q2, 0 + j, none⟩ = some u) := fun j u hu => by rw [Nat.zero_add]; exact XD.out.cell j (by simpa using hu)
      have XO : Hid (Bx q0 #[.string ⟨#[]⟩, .int .i64 0, .int .i64 0, .int .i64 0, .int .i64 0, .int .i64 0, .slice none 0 0, .slice none 0 0, .slice none 0 0] 30 wq) := by have := I9.out.res; rw [HQ.out] at this; exact this
      have BQ := Lib.hid I9.out.be
      have RQ : Hid (Rd (wq.setRow q0 CS.toArray) 4 (.slice As ns cs) L.length (seccells L)) := by
       have h1 := I9.out.own
       have h2 : Frm (· = q0) wq (wq.setRow q0 CS.toArray) := ⟨rfl, rfl, rfl, by simp [World.setRow], fun k hk hn => setRow_other wq q0 k _ hn⟩
       have hlow : q0 < B := by have := I9.out.o1; have := I9.out.o2; have := I9.out.o3; have := I9.out.o4; have := HQ.out; omega
       exact Rd.of_own (own_frm2 h1 h2 hlow)
      have DQ : Hid (DbV (wq.setRow q0 CS.toArray) f av pv (dbOfL body L)) := by
       have h2 : Frm (· = q0) wq (wq.setRow q0 CS.toArray) := ⟨rfl, rfl, rfl, by simp [World.setRow], fun k hk hn => setRow_other wq q0 k _ hn⟩
       exact (Z9.out.tf (TFrm.of_frmT h2 XO.out (by simp [rdTs]))).db hLk.out
      have hsz2 : (#[.string ⟨#[]⟩, .int .i64 0, .int .i64 0, .int .i64 0, .int .i64 0, .int .i64 0, .slice none 0 0, .slice none 0 0, .slice none 0 0] : Array Value).size = CS.toArray.size := by show 9 = CS.length; exact hcl.symm
      have HS2 := Lib.hid hsz2
      clear hwq hi hcs Z9 hdk hdb hf hav hpv hmap I9 XD hone hcl hCS ka ks k3 HR hsz2
      go_wp2_with (first | (with_reducible refine wpList_load_wide rfl 30 (.tmp 8) rfl q2 0 rfl CS 9 HCL.out (aggDB9 _) (sizeDB9 _) HCS.out ?_) | (refine wpList_plain rfl fun _ hK => wp_store_row 30 (.tmp 2) (.tmp 175) rfl q0 CS.toArray rfl rfl 30 _ XO.out (by rw [List.size_toArray, HCL.out]; exact infoDB9) HS2.out (by rw [Array.all_eq_true_iff_forall_mem]; intro u hu; exact HON.out u (by simpa using hu)) (hK _ _ ?_)))
      have FX0 : Bx q0 CS.toArray 30 (wq.setRow q0 CS.toArray) := setRow_heap _ q0 _ CS.toArray 30 (0, 0) XO.out
      have HPF := HPO.out _ (row_below BQ.out HQ.out) RQ.out DQ.out
      obtain ⟨W9, hW9⟩ : ∃ W, wq.setRow q0 CS.toArray = W := ⟨_, rfl⟩
      rw [hW9] at FX0 HPF ⊢
      have HPG := Lib.hid HPF
      have hcl := HCL.out
      clear hW9 HPF HPO HCL HS2 HCS HON XO RQ BQ DQ
      obtain ⟨v0, v1, v2, v3, v4, v5, v6, v7, v8, rfl⟩ := len9 hcl
      have x0 := FX0.cell 0 (u := v0) rfl
      have x1 := FX0.cell 1 (u := v1) rfl
      have x2 := FX0.cell 2 (u := v2) rfl
      have x3 := FX0.cell 3 (u := v3) rfl
      have x4 := FX0.cell 4 (u := v4) rfl
      have x5 := FX0.cell 5 (u := v5) rfl
      have x6 := FX0.cell 6 (u := v6) rfl
      have x7 := FX0.cell 7 (u := v7) rfl
      have x8 := FX0.cell 8 (u := v8) rfl
      refine bodyPost_ret (v := .tuple #[.agg #[v0, v1, v2, v3, v4, v5, v6, v7, v8], .slice As ns cs, .int .i64 0]) (by simp [results, Tryz.results71, go_sem, x0, x1, x2, x3, x4, x5, x6, x7, x8]; try rfl) rfl ?_
      exact HPG.out
     ·have e9 : ((a : Int) == (nb : Int)) = false := by rw [beq_eq_false_iff_ne]; omega
      have p9 : ((a : Int) != (nb : Int)) = true := by rw [bne, e9]; rfl
      have HPN : Hid (∀ W, Below w.heap.size w W → ImReadPostS bs w (.returned (.tuple #[.agg dbZ9, .slice none 0 0, .int .i64 4])) W) := HP.out (by rw [HGO.out, HG0.out, if_neg (by rw [HNB.out]; exact hae)]; rfl)
      clear hgo HG0 HP HOK hae
      go_wp2_with fail
      go_quiet (fail)
      have XQ : Hid (Bx q0 #[.string ⟨#[]⟩, .int .i64 0, .int .i64 0, .int .i64 0, .int .i64 0, .int .i64 0, .slice none 0 0, .slice none 0 0, .slice none 0 0] 30 (wr.drewN nq)) := by have := hi.out.res; rw [HQ.out] at this; exact this
      have BQ : Hid (Below w.heap.size w (wr.drewN nq)) := below_drewN' hi.out.be nq
      obtain ⟨wq, hwq⟩ : ∃ W, wr.drewN nq = W := ⟨_, rfl⟩
      rw [hwq] at XQ BQ ⊢
      clear hwq hi ka ks k3
      have XO : Hid (Bx q0 #[.string ⟨#[]⟩, .int .i64 0, .int .i64 0, .int .i64 0, .int .i64 0, .int .i64 0, .slice none 0 0, .slice none 0 0, .slice none 0 0] 30 _) := XQ.out
      go_wp2_with (refine wpList_plain rfl fun _ hK => wp_store_row 30 (.tmp 2) (.tmp 174) rfl q0 dbZ9 rfl rfl 30 _ XO.out infoDB9 rfl dbZ9_one (hK _ _ ?_))
      have FX : Bx q0 #[.string ⟨#[]⟩, .int .i64 0, .int .i64 0, .int .i64 0, .int .i64 0, .int .i64 0, .slice none 0 0, .slice none 0 0, .slice none 0 0] 30 _ := setRow_heap _ q0 _ dbZ9 30 (0, 0) XO.out
      obtain ⟨⟨x0, x1, x2, x3, x4, x5, x6, x7, x8⟩, _⟩ := Bx.cells9 FX
      refine bodyPost_ret (v := .tuple #[.agg dbZ9, .slice none 0 0, .int .i64 4]) (by simp [results, Tryz.results71, go_sem, x0, x1, x2, x3, x4, x5, x6, x7, x8]; try rfl) rfl ?_
      exact HPN.out _ (row_below BQ.out HQ.out)
    ·have hlt : k < 4 := by omega
     have hle : (k : Int) + 1 ≤ 4 := by omega
     go_wp2_with fail
     refine (imByte_any (a, false) _ hi.out.rd).mono ?_
     rintro e w5 ⟨rfl, hr⟩
     have I5 := Lib.hid (hi.out.call hr)
     have Z5 := Lib.hid (hcs.out.tf (TFrm.of_frmT hr.f hi.out.rd.bx (by simp [rdTs])))
     obtain ⟨bv, hbv⟩ : ∃ x : Nat, (byV body body.length (a, false)).toNat = x := ⟨_, rfl⟩
     have HBV := Lib.hid hbv
     have hb8 := (byV body body.length (a, false)).toNat_lt
     rw [hbv] at hb8 ⊢
     have kk3 := hr.r.bx.cell 3 (u := .bool (tkS body.length 1 (a, false)).2) rfl
     have ff3 := hr.r.bx.free 3
     clear hr hi k3 hbv
     have hkk : IntKind.u8.wrap ((k : Int) + 1) = (k : Int) + 1 := by rw [IntKind.wrap_u8']; omega
     by_cases hbk : bv = k + 1
     ·have e5 : (((bv : Int)) == (k : Int) + 1) = true := by rw [beq_iff_eq]; omega
      have p5 : (((bv : Int)) != (k : Int) + 1) = false := by rw [bne, e5]; rfl
      have hgd := byV_good (bs := body) (st := body.length) (a := a) (by rw [HBV.out]; omega)
      rw [hgd.1] at I5 kk3
      go_wp2_with fail
      refine (imLow_any (a + 1, false) 4 _ I5.out.rd (by omega)).mono ?_
      rintro e w6 ⟨rfl, hr⟩
      have I6 := Lib.hid (I5.out.call hr)
      have Z6 := Lib.hid (Z5.out.tf (TFrm.of_frmT hr.f I5.out.rd.bx (by simp [rdTs])))
      have hn4 := loN_lt4 (tkV body body.length 4 (a + 1, false)) tkV_len
      obtain ⟨n, hn⟩ : ∃ x, loN (tkV body body.length 4 (a + 1, false)) = x := ⟨_, rfl⟩
      have HNN := Lib.hid hn
      rw [hn] at hn4 ⊢
      have hwn : IntKind.i64.wrap (n : Int) = (n : Int) := by rw [IntKind.wrap_i64]; omega
      rw [hwn]
      clear kk3 ff3 hwn hn I5
      have HTK : Hid ((tkS body.length 4 (tkS body.length 1 (a, false))) = tkS body.length 4 (a + 1, false)) := by unfold Hid; rw [hgd.1]
      cases h2 : (tkS body.length 4 (a + 1, false)).2 with
      | true =>
       have kb := hr.r.bx.cell 3 (u := .bool (tkS body.length 4 (a + 1, false)).2) rfl
       rw [h2] at kb
       have hG : rdG body (4 - k) (k + 1) a = none := by
        rw [show 4 - k = (3 - k) + 1 by omega]
        exact rdG_form (.inl (by rw [HTK.out]; exact h2))
       have HPN : Hid (∀ W, Below w.heap.size w W → ImReadPostS bs w (.returned (.tuple #[.agg dbZ9, .slice none 0 0, .int .i64 4])) W) := HP.out (by rw [HGO.out, hgo.out, hG]; rfl)
       have X6 : Hid (Bx q0 #[.string ⟨#[]⟩, .int .i64 0, .int .i64 0, .int .i64 0, .int .i64 0, .int .i64 0, .slice none 0 0, .slice none 0 0, .slice none 0 0] 30 w6) := by have := I6.out.res; rw [HQ.out] at this; exact this
       have B6 := Lib.hid I6.out.be
       clear hr I6 h2 hG hgo HP HOK hgd HTK HNN HBV
       have XO : Hid (Bx q0 #[.string ⟨#[]⟩, .int .i64 0, .int .i64 0, .int .i64 0, .int .i64 0, .int .i64 0, .slice none 0 0, .slice none 0 0, .slice none 0 0] 30 _) := X6.out
       go_wp2_with (refine wpList_plain rfl fun _ hK => wp_store_row 30 (.tmp 2) (.tmp 68) rfl q0 dbZ9 rfl rfl 30 _ XO.out infoDB9 rfl dbZ9_one (hK _ _ ?_))
       have FX : Bx q0 #[.string ⟨#[]⟩, .int .i64 0, .int .i64 0, .int .i64 0, .int .i64 0, .int .i64 0, .slice none 0 0, .slice none 0 0, .slice none 0 0] 30 _ := setRow_heap _ q0 _ dbZ9 30 (0, 0) XO.out
       obtain ⟨⟨x0, x1, x2, x3, x4, x5, x6, x7, x8⟩, _⟩ := Bx.cells9 FX
       refine bodyPost_ret (v := .tuple #[.agg dbZ9, .slice none 0 0, .int .i64 4]) (by simp [results, Tryz.results71, go_sem, x0, x1, x2, x3, x4, x5, x6, x7, x8]; try rfl) rfl ?_
       exact HPN.out _ (row_below B6.out HQ.out)
      | false =>
       have hg4 := tkS_good (n := 4) (a := a + 1) (b := false) h2
       have hs4 : tkS body.length 4 (a + 1, false) = (a + 5, false) := tkS_yes hg4.2
       rw [hs4] at hr I6
       have kb := hr.r.bx.cell 3 (u := .bool false) rfl
       have ka := hr.r.bx.cell 1 (u := .int .i64 ((a + 5 : Nat) : Int)) rfl
       rw [show ((a + 5 : Nat) : Int) = (a : Int) + 5 by omega] at ka
       have hal : a + 5 ≤ nb := by have := hr.r.at_; rw [HNB.out] at this; exact this
       by_cases hgt : nb - (a + 5) < n
       ·have hG : rdG body (4 - k) (k + 1) a = none := by
         rw [show 4 - k = (3 - k) + 1 by omega]
         exact rdG_form (.inr (.inr (by rw [HNN.out, HNB.out]; exact hgt)))
        have HPN : Hid (∀ W, Below w.heap.size w W → ImReadPostS bs w (.returned (.tuple #[.agg dbZ9, .slice none 0 0, .int .i64 4])) W) := HP.out (by rw [HGO.out, hgo.out, hG]; rfl)
        have X6 : Hid (Bx q0 #[.string ⟨#[]⟩, .int .i64 0, .int .i64 0, .int .i64 0, .int .i64 0, .int .i64 0, .slice none 0 0, .slice none 0 0, .slice none 0 0] 30 w6) := by have := I6.out.res; rw [HQ.out] at this; exact this
        have B6 := Lib.hid I6.out.be
        have hgi : (nb : Int) - ((a : Int) + 5) < (n : Int) := by omega
        clear hr I6 h2 hG hgo HP HOK hgd HTK HNN HBV hg4 hs4
        have XO : Hid (Bx q0 #[.string ⟨#[]⟩, .int .i64 0, .int .i64 0, .int .i64 0, .int .i64 0, .int .i64 0, .slice none 0 0, .slice none 0 0, .slice none 0 0] 30 _) := X6.out
        go_wp2_with (refine wpList_plain rfl fun _ hK => wp_store_row 30 (.tmp 2) (.tmp 68) rfl q0 dbZ9 rfl rfl 30 _ XO.out infoDB9 rfl dbZ9_one (hK _ _ ?_))
        have FX : Bx q0 #[.string ⟨#[]⟩, .int .i64 0, .int .i64 0, .int .i64 0, .int .i64 0, .int .i64 0, .slice none 0 0, .slice none 0 0, .slice none 0 0] 30 _ := setRow_heap _ q0 _ dbZ9 30 (0, 0) XO.out
        obtain ⟨⟨x0, x1, x2, x3, x4, x5, x6, x7, x8⟩, _⟩ := Bx.cells9 FX
        refine bodyPost_ret (v := .tuple #[.agg dbZ9, .slice none 0 0, .int .i64 4]) (by simp [results, Tryz.results71, go_sem, x0, x1, x2, x3, x4, x5, x6, x7, x8]; try rfl) rfl ?_
        exact HPN.out _ (row_below B6.out HQ.out)
       ·have hgi : ¬ (nb : Int) - ((a : Int) + 5) < (n : Int) := by omega
        have hst : a + 5 + n ≤ nb := by omega
        have HT5 : Hid (tkS body.length 4 (tkS body.length 1 (a, false)) = (a + 5, false)) := by unfold Hid; rw [hgd.1]; exact hs4
        clear hr h2 hgd HTK hg4 hs4
        obtain ⟨w7, hw7⟩ : ∃ W, w6.alloc (.cells #[.int .u8 ((k : Int) + 1), .int .i64 ((a : Int) + 5), .int .i64 (n : Int), .int .i64 1] 121) = W := ⟨_, rfl⟩
        have hb7 : Below w6.heap.size w6 w7 := by rw [← hw7]; exact (Below.refl _ _).alloc (Nat.le_refl _) _
        obtain ⟨q3, hq3⟩ : ∃ q, w6.heap.size = q := ⟨_, rfl⟩
        have I7 := Lib.hid (I6.out.below hb7)
        have Z7 := Lib.hid (Z6.out.tf (TFrm.of_below hb7))
        have X7 : Hid (Bx q3 #[.int .u8 ((k : Int) + 1), .int .i64 ((a : Int) + 5), .int .i64 (n : Int), .int .i64 1] 121 w7) := by rw [← hw7, ← hq3]; exact Bx.last _ _ _
        have hs7 : w7.heap.size = q3 + 1 := by rw [← hw7, World.size_alloc, hq3]
        have HS7 := Lib.hid hs7
        have HQ3 := Lib.hid hq3
        have HW7 := Lib.hid hw7
        have hB3 : B ≤ q3 := by rw [← hq3]; exact I6.out.hi
        have HOB : Hid (∀ b, (Value.slice As ns cs).ownBlock = some b → b < q3) := fun b hb => by rw [← hq3]; exact (I6.out.own.lt b hb).2
        clear hw7 hq3 hs7 I6
        go_wp2_with fail
        rw [HW7.out, HQ3.out]
        clear HW7 HQ3 kb ka
        have ka := I7.out.rd.bx.cell 1 (u := .int .i64 ((a + 5 : Nat) : Int)) rfl
        rw [show ((a + 5 : Nat) : Int) = (a : Int) + 5 by omega] at ka
        have hwa : IntKind.i64.wrap ((a : Int) + 5 + (n : Int)) = (a : Int) + 5 + (n : Int) := by rw [IntKind.wrap_i64]; omega
        go_region
        have hb8' : Below w7.heap.size w7 (w7.alloc (.cells #[.slice (some ⟨gb, 0, none⟩) nb cb, .int .i64 ((a : Int) + 5), .int .i64 ((a : Int) + 5 + (n : Int)), .bool false] 210)).drew := ((Below.refl _ _).alloc (Nat.le_refl _) _).drew
        have C8 : Hid (RdP w7.heap.size gb 0 cb (a + 5 + n) body (a + 5, false) (w7.alloc (.cells #[.slice (some ⟨gb, 0, none⟩) nb cb, .int .i64 ((a : Int) + 5), .int .i64 ((a : Int) + 5 + (n : Int)), .bool false] 210)).drew) := by
         have hx : Bx w7.heap.size (rdPc gb 0 body.length cb (a + 5 + n) (a + 5, false)) 210 (w7.alloc (.cells #[.slice (some ⟨gb, 0, none⟩) nb cb, .int .i64 ((a : Int) + 5), .int .i64 ((a : Int) + 5 + (n : Int)), .bool false] 210)).drew := by
          unfold rdPc
          rw [HNB.out, show ((a + 5 + n : Nat) : Int) = (a : Int) + 5 + (n : Int) by omega]
          simp only [show ((a + 5 : Nat) : Int) = (a : Int) + 5 by omega]
          exact Bx.last w7 _ _
         have hg7 := I7.out.rd.by_.1
         refine ⟨hx, I7.out.rd.by_.below hb8', by omega, by show a + 5 ≤ a + 5 + n; omega, by rw [HNB.out]; exact hst, by rw [HNB.out]; exact hcb, hmb⟩
        have I8 := Lib.hid (I7.out.below hb8')
        have Z8 := Lib.hid (Z7.out.tf (TFrm.of_below hb8'))
        have X8 := Lib.hid (Bx.via hb8' X7.out)
        obtain ⟨w8, hw8⟩ : ∃ W, (w7.alloc (.cells #[.slice (some ⟨gb, 0, none⟩) nb cb, .int .i64 ((a : Int) + 5), .int .i64 ((a : Int) + 5 + (n : Int)), .bool false] 210)).drew = W := ⟨_, rfl⟩
        rw [hw8] at C8 I8 X8 Z8 ⊢
        clear Z5 Z6 Z7 hcs
        obtain ⟨q4, hq4⟩ : ∃ q, w7.heap.size = q := ⟨_, rfl⟩
        rw [hq4] at C8 ⊢
        have h34 : q4 = q3 + 1 := by rw [← hq4]; exact HS7.out
        have h23 : q2 < q3 := by have := I7.out.o4; omega
        clear hb8' hw8 hq4 I7 X7 ka hwa HS7
        obtain ⟨f0, a0, p0, nf0, na0, np0, hdb, hlf, hla, hlp, hnf, hna, hnp, hmap⟩ := hdk.out.ex
        obtain ⟨Af, cf, hf0, hf0n⟩ := hlf
        obtain ⟨Aa, ca, ha0, ha0n⟩ := hla
        obtain ⟨Ap, cp, hp0, hp0n⟩ := hlp
        obtain ⟨hd, hhd⟩ : ∃ x, (if k = 0 then hd0 else imHdF body) = x := ⟨_, rfl⟩
        rw [hhd] at hdb
        subst hf0 ha0 hp0 hdb
        have HHD := Lib.hid hhd
        have HK0 : Hid (k = 0 → a = 4) := hka.out
        have HMP := Lib.hid hmap
        have HNF := Lib.hid hnf
        have HNA := Lib.hid hna
        have HNP := Lib.hid hnp
        have HLF : Hid (LF (.slice Af nf0 cf) nf0) := ⟨_, _, rfl, hf0n⟩
        have HLA : Hid (LF (.slice Aa na0 ca) na0) := ⟨_, _, rfl, ha0n⟩
        have HLP : Hid (LF (.slice Ap np0 cp) np0) := ⟨_, _, rfl, hp0n⟩
        have H34 := Lib.hid h34
        have h24 : q2 < q4 := by omega
        have hg4 : q1 < q4 := by omega
        have h3n4 : q3 ≠ q4 := by omega
        have HB4 : Hid (B ≤ q4 ∧ (Value.slice As ns cs).ownBlock ≠ some q4) := ⟨by omega, fun e => by have := HOB.out _ e; omega⟩
        have HB3 : Hid (B ≤ q3 ∧ (Value.slice As ns cs).ownBlock ≠ some q3) := ⟨hB3, fun e => by have := HOB.out _ e; omega⟩
        clear hhd hmap hnf hna hnp hf0n ha0n hp0n h34 hdk
        obtain ⟨stp, hstp⟩ : ∃ x, a + 5 + n = x := ⟨_, rfl⟩
        rw [hstp] at C8
        have HSTP := Lib.hid hstp
        clear hstp
        go_upto_region 19 with fail
        go_cut [89] (fun u wx => u = .int .u8 ((k : Int) + 1) ∧ wx = w8)
        case first =>
         go_wp2
         go_meet
         exact ⟨rfl, rfl⟩
        case rest =>
        obtain ⟨rfl, rfl⟩ := hcut
        rename_i KK hKK
        refine hKK _ _ ?_
        go_cut [97] (fun _ wx => ∃ (db' : Array Value) (cnt : Nat), Hid (RdI w q1 q2 gb 0 cb B body db' (a + 5, false) (.slice As ns cs) L wx) ∧ Hid (RdP q4 gb 0 cb stp body (secS body stp (k + 1) (a + 5, false)) wx) ∧ Hid (Bx q3 #[.int .u8 ((k : Int) + 1), .int .i64 ((a : Int) + 5), .int .i64 (n : Int), .int .i64 (cnt : Int)] 121 wx) ∧ Hid ((secS body stp (k + 1) (a + 5, false)).2 = false → cnt = secN body stp (k + 1) (a + 5, false) ∧ DbK body (k + 1) db' (L ++ [(k + 1, a + 5, n, cnt)]) ∧ ConS B body db' (L ++ [(k + 1, a + 5, n, cnt)]) wx))
        case first =>
         rcases (by omega : k = 0 ∨ k = 1 ∨ k = 2 ∨ k = 3) with hkj | hkj | hkj | hkj
         ·have t1 : (((k : Int) + 1) == 1) = true := by rw [beq_iff_eq]; omega
          have HKJ := Lib.hid hkj
          have HSS : Hid (secS body stp (k + 1) (a + 5, false) = hdS body stp (a + 5, false)) := by unfold Hid; rw [show k + 1 = 1 by omega]; exact secS_1 _ _ _
          clear hkj
          go_wp2_with fail
          refine (imText_any (a + 5, false) _ C8.out).mono ?_
          rintro e w9 ⟨rfl, hr⟩
          have T1 := Lib.hid hr
          clear hr
          go_wp2_with fail
          refine (imNum_any (txS body stp (a + 5, false)) _ T1.out.r).mono ?_
          rintro e w10 ⟨rfl, hr⟩
          have T2 := Lib.hid (T1.out.then_ hr)
          clear hr T1
          go_wp2_with fail
          refine (imNum_any (n8S stp (txS body stp (a + 5, false))) _ T2.out.r).mono ?_
          rintro e w11 ⟨rfl, hr⟩
          have T3 := Lib.hid (T2.out.then_ hr)
          clear hr T2
          go_wp2_with fail
          refine (imNum_any (n8S stp (n8S stp (txS body stp (a + 5, false)))) _ T3.out.r).mono ?_
          rintro e w12 ⟨rfl, hr⟩
          have T4 := Lib.hid (T3.out.then_ hr)
          clear hr T3
          go_wp2_with fail
          refine (imNum_any (n8S stp (n8S stp (n8S stp (txS body stp (a + 5, false))))) _ T4.out.r).mono ?_
          rintro e w13 ⟨rfl, hr⟩
          have T5 := Lib.hid (T4.out.then_ hr)
          clear hr T4
          go_wp2_with fail
          refine (imNum_any (n8S stp (n8S stp (n8S stp (n8S stp (txS body stp (a + 5, false)))))) _ T5.out.r).mono ?_
          rintro e w14 ⟨rfl, hr⟩
          have T6 := Lib.hid (T5.out.then_ hr)
          clear hr T5
          have I9 := Lib.hid (I8.out.step T6.out.f (fun j hj => .inr (by subst hj; exact HB4.out)) ((T6.out.f.block q2 I8.out.dbx.lt (by omega)).trans I8.out.dbx))
          have X9 : Hid (Bx q3 #[.int .u8 ((k : Int) + 1), .int .i64 ((a : Int) + 5), .int .i64 (n : Int), .int .i64 1] 121 w14) := (T6.out.f.block q3 X8.out.lt h3n4).trans X8.out
          have C9 : Hid (RdP q4 gb 0 cb stp body (hdS body stp (a + 5, false)) w14) := T6.out.r
          have yl := I9.out.dbx.lt
          have y0 := I9.out.dbx.cell 0 (u := .string (sb hd.nm)) rfl
          have f0 := I9.out.dbx.free 0
          have y1 := I9.out.dbx.cell 1 (u := .int .i64 hd.cy) rfl
          have f1 := I9.out.dbx.free 1
          have y2 := I9.out.dbx.cell 2 (u := .int .i64 hd.fr) rfl
          have f2 := I9.out.dbx.free 2
          have y3 := I9.out.dbx.cell 3 (u := .int .i64 hd.tu) rfl
          have f3 := I9.out.dbx.free 3
          have y4 := I9.out.dbx.cell 4 (u := .int .i64 hd.la) rfl
          have f4 := I9.out.dbx.free 4
          have y5 := I9.out.dbx.cell 5 (u := .int .i64 hd.lo) rfl
          have f5 := I9.out.dbx.free 5
          have F1 : Frm (· = q2) w14 ((((((w14.setCell ⟨q2, 0, none⟩ (.string (sb (txV body stp (a + 5, false))))).setCell ⟨q2, 1, none⟩ (.int .i64 (n8V body stp (txS body stp (a + 5, false))))).setCell ⟨q2, 2, none⟩ (.int .i64 (n8V body stp (n8S stp (txS body stp (a + 5, false)))))).setCell ⟨q2, 3, none⟩ (.int .i64 (n8V body stp (n8S stp (n8S stp (txS body stp (a + 5, false))))))).setCell ⟨q2, 4, none⟩ (.int .i64 (n8V body stp (n8S stp (n8S stp (n8S stp (txS body stp (a + 5, false)))))))).setCell ⟨q2, 5, none⟩ (.int .i64 (n8V body stp (n8S stp (n8S stp (n8S stp (n8S stp (txS body stp (a + 5, false))))))))) := setAll_frm q2 [.string (sb (txV body stp (a + 5, false))), .int .i64 (n8V body stp (txS body stp (a + 5, false))), .int .i64 (n8V body stp (n8S stp (txS body stp (a + 5, false)))), .int .i64 (n8V body stp (n8S stp (n8S stp (txS body stp (a + 5, false))))), .int .i64 (n8V body stp (n8S stp (n8S stp (n8S stp (txS body stp (a + 5, false)))))), .int .i64 (n8V body stp (n8S stp (n8S stp (n8S stp (n8S stp (txS body stp (a + 5, false)))))))] 0 w14
          have I10 : Hid (RdI w q1 q2 gb 0 cb B body (dbI (hdV body stp (a + 5, false)) (.slice Af nf0 cf) (.slice Aa na0 ca) (.slice Ap np0 cp)) (a + 5, false) (.slice As ns cs) L ((((((w14.setCell ⟨q2, 0, none⟩ (.string (sb (txV body stp (a + 5, false))))).setCell ⟨q2, 1, none⟩ (.int .i64 (n8V body stp (txS body stp (a + 5, false))))).setCell ⟨q2, 2, none⟩ (.int .i64 (n8V body stp (n8S stp (txS body stp (a + 5, false)))))).setCell ⟨q2, 3, none⟩ (.int .i64 (n8V body stp (n8S stp (n8S stp (txS body stp (a + 5, false))))))).setCell ⟨q2, 4, none⟩ (.int .i64 (n8V body stp (n8S stp (n8S stp (n8S stp (txS body stp (a + 5, false)))))))).setCell ⟨q2, 5, none⟩ (.int .i64 (n8V body stp (n8S stp (n8S stp (n8S stp (n8S stp (txS body stp (a + 5, false)))))))))) := I9.out.step F1 (fun j hj => .inl hj) (Bx.h6 I9.out.dbx (.string (sb (txV body stp (a + 5, false)))) (.int .i64 (n8V body stp (txS body stp (a + 5, false)))) (.int .i64 (n8V body stp (n8S stp (txS body stp (a + 5, false))))) (.int .i64 (n8V body stp (n8S stp (n8S stp (txS body stp (a + 5, false)))))) (.int .i64 (n8V body stp (n8S stp (n8S stp (n8S stp (txS body stp (a + 5, false))))))) (.int .i64 (n8V body stp (n8S stp (n8S stp (n8S stp (n8S stp (txS body stp (a + 5, false)))))))))
          have C10 := Lib.hid (C9.out.keep F1 (by omega) (by have := I9.out.o2; have := I9.out.o3; omega))
          have X10 : Hid (Bx q3 #[.int .u8 ((k : Int) + 1), .int .i64 ((a : Int) + 5), .int .i64 (n : Int), .int .i64 1] 121 ((((((w14.setCell ⟨q2, 0, none⟩ (.string (sb (txV body stp (a + 5, false))))).setCell ⟨q2, 1, none⟩ (.int .i64 (n8V body stp (txS body stp (a + 5, false))))).setCell ⟨q2, 2, none⟩ (.int .i64 (n8V body stp (n8S stp (txS body stp (a + 5, false)))))).setCell ⟨q2, 3, none⟩ (.int .i64 (n8V body stp (n8S stp (n8S stp (txS body stp (a + 5, false))))))).setCell ⟨q2, 4, none⟩ (.int .i64 (n8V body stp (n8S stp (n8S stp (n8S stp (txS body stp (a + 5, false)))))))).setCell ⟨q2, 5, none⟩ (.int .i64 (n8V body stp (n8S stp (n8S stp (n8S stp (n8S stp (txS body stp (a + 5, false)))))))))) := (F1.block q3 X9.out.lt (by omega)).trans X9.out
          clear T6 I8 X8 C8 I9 X9 C9 F1 Z8
          go_wp2
          go_meet
          refine ⟨_, 1, I10.out, by rw [HSS.out]; exact C10.out, X10.out, fun hb => ?_⟩
          have hkj := HKJ.out
          have hmp := HMP.out
          rw [hkj] at hmp
          have h12 : k + 1 = 1 := by omega
          have ha4 := HK0.out hkj
          have hhd : hdV body stp (a + 5, false) = imHdF body := by
           rw [← HSTP.out, ← HNN.out, ha4]; rfl
          rw [h12, secN_1, hhd]
          exact ⟨rfl, DbK.s0 HLF.out HLA.out HLP.out (HNF.out (by omega)) (HNA.out (by omega)) (HNP.out (by omega)) hmp, ConS.nil (by rw [List.length_append, hLk.out, hkj]; simp)⟩
         ·have t1 : (((k : Int) + 1) == 1) = false := by rw [beq_eq_false_iff_ne]; omega
          have t2 : (((k : Int) + 1) == 2) = true := by rw [beq_iff_eq]; omega
          have HKJ := Lib.hid hkj
          have HSS : Hid (secS body stp (k + 1) (a + 5, false) = lsS body stp (fiS body stp) (a + 5, false)) := by unfold Hid; rw [show k + 1 = 2 by omega]; exact secS_2 _ _ _
          clear hkj
          go_wp2_with fail
          refine (imLsFix_any (a + 5, false) _ C8.out).mono ?_
          rintro e w9 ⟨v, rfl, ⟨Av2, nv, cv2, rfl⟩, hnl, hls, hr⟩
          have I9 := Lib.hid (I8.out.step hr.f (fun j hj => .inr (by subst hj; exact HB4.out)) ((hr.f.block q2 I8.out.dbx.lt (by omega)).trans I8.out.dbx))
          have X9 : Hid (Bx q3 #[.int .u8 ((k : Int) + 1), .int .i64 ((a : Int) + 5), .int .i64 (n : Int), .int .i64 1] 121 w9) := (hr.f.block q3 X8.out.lt h3n4).trans X8.out
          have C9 := Lib.hid hr.r
          have HLEN : Hid ((lsS body stp (fiS body stp) (a + 5, false)).2 = false → nv = lsN body stp (a + 5, false) ∧ LF (.slice Av2 nv cv2) nv) := fun hb => by
           obtain ⟨L2, h1, _, h3⟩ := hls hb
           have h4 := own_len h3
           exact ⟨h4.trans h1, _, _, rfl, fun h0 => hnl (by omega)⟩
          have hB8 := I8.out.hi
          have HO9 : Hid ((lsS body stp (fiS body stp) (a + 5, false)).2 = false → FxsO B w9 (.slice Av2 nv cv2) (fxsV body stp (a + 5, false))) := fun hb => by
           obtain ⟨L2, h1, h2, h3⟩ := hls hb
           obtain ⟨_, hrev⟩ := chn_val (cf := fxc) (val := fxV body stp) (fun s c h => h) _ L2 _ h2
           have hb2 := own_base h3 hB8
           rw [h1] at hrev hb2
           have hl2 : (fxsV body stp (a + 5, false)).length = lsN body stp (a + 5, false) := lsV_len _ _ _ _
           show w9.ownsRow _ _ _ _ (fxsV body stp (a + 5, false)).length ((fxsV body stp (a + 5, false)).flatMap fxc)
           rw [hl2, List.flatMap_def, show (fxsV body stp (a + 5, false)).map fxc = L2.reverse from hrev.symm]
           exact hb2
          have y0 := I9.out.dbx.cell 6 (u := (.slice Af nf0 cf)) rfl
          have y1 := I9.out.dbx.free 6
          have yl := I9.out.dbx.lt
          have z0 := X9.out.cell 3 (u := .int .i64 1) rfl
          have z1 := X9.out.free 3
          have zl := X9.out.lt
          have F1 := frm_set w9 q2 6 (.slice Av2 nv cv2)
          have I10 : Hid (RdI w q1 q2 gb 0 cb B body (dbI hd (.slice Av2 nv cv2) (.slice Aa na0 ca) (.slice Ap np0 cp)) (a + 5, false) (.slice As ns cs) L (w9.setCell ⟨q2, 6, none⟩ (.slice Av2 nv cv2))) := I9.out.step F1 (fun j hj => .inl hj) (Bx.d6 I9.out.dbx _)
          have C10 := Lib.hid (C9.out.keep F1 (by omega) (by have := I9.out.o2; have := I9.out.o3; omega))
          have X10 : Hid (Bx q3 #[.int .u8 ((k : Int) + 1), .int .i64 ((a : Int) + 5), .int .i64 (n : Int), .int .i64 1] 121 (w9.setCell ⟨q2, 6, none⟩ (.slice Av2 nv cv2))) := (F1.block q3 X9.out.lt (by omega)).trans X9.out
          have F2 := frm_set (w9.setCell ⟨q2, 6, none⟩ (.slice Av2 nv cv2)) q3 3 (.int .i64 (nv : Int))
          have I11 := Lib.hid (I10.out.step F2 (fun j hj => .inr (by subst hj; exact HB3.out)) ((F2.block q2 I10.out.dbx.lt (by omega)).trans I10.out.dbx))
          have G1 : TFrm B rdTs w9 (w9.setCell ⟨q2, 6, none⟩ (.slice Av2 nv cv2)) := TFrm.of_frmT F1 I9.out.dbx (by simp [rdTs])
          have G2 : TFrm B rdTs (w9.setCell ⟨q2, 6, none⟩ (.slice Av2 nv cv2)) ((w9.setCell ⟨q2, 6, none⟩ (.slice Av2 nv cv2)).setCell ⟨q3, 3, none⟩ (.int .i64 (nv : Int))) := TFrm.of_frmT F2 X10.out (by simp [rdTs])
          have HG := Lib.hid (G1.trans G2)
          have Z11 := Lib.hid ((Z8.out.tf (TFrm.of_frmT hr.f C8.out.bx (by simp [rdTs]))).tf HG.out)
          clear G1 G2 hB8 Z8
          have C11 := Lib.hid (C10.out.keep F2 (by omega) (by have := I9.out.o2; have := I9.out.o3; omega))
          have X11 := Lib.hid (Bx.s43 X10.out (.int .i64 (nv : Int)))
          clear hr hls hnl I8 X8 C8 I9 X9 C9 I10 C10 X10 F1 F2
          go_wp2
          go_meet
          refine ⟨_, nv, I11.out, by rw [HSS.out]; exact C11.out, X11.out, fun hb => ?_⟩
          have hkj := HKJ.out
          have hmp := HMP.out
          rw [hkj] at hmp
          rw [HSS.out] at hb
          have h5 := HLEN.out hb
          have h12 : k + 1 = 2 := by omega
          rw [h12, secN_2]
          refine ⟨h5.1, ?_⟩
          rw [← HHD.out, if_neg (by omega)]
          refine ⟨DbK.s1 h5.2 HLA.out HLP.out (HNA.out (by omega)) (HNP.out (by omega)) hmp, ?_⟩
          have h6 := (HO9.out hb).tf HG.out
          rw [← HSTP.out] at h6
          exact ConS.s1 (hLk.out.trans hkj) h6
         ·have t1 : (((k : Int) + 1) == 1) = false := by rw [beq_eq_false_iff_ne]; omega
          have t2 : (((k : Int) + 1) == 2) = false := by rw [beq_eq_false_iff_ne]; omega
          have t3 : (((k : Int) + 1) == 3) = true := by rw [beq_iff_eq]; omega
          have HKJ := Lib.hid hkj
          have HSS : Hid (secS body stp (k + 1) (a + 5, false) = lsS body stp (awS body stp) (a + 5, false)) := by unfold Hid; rw [show k + 1 = 3 by omega]; exact secS_3 _ _ _
          clear hkj
          go_wp2_with fail
          refine (imLsAwS_any (a + 5, false) _ C8.out).mono ?_
          rintro e w9 ⟨v, rfl, ⟨Av2, nv, cv2, rfl⟩, hnl, hls, hr⟩
          have I9 := Lib.hid (I8.out.step hr.f (fun j hj => .inr (by subst hj; exact HB4.out)) ((hr.f.block q2 I8.out.dbx.lt (by omega)).trans I8.out.dbx))
          have X9 : Hid (Bx q3 #[.int .u8 ((k : Int) + 1), .int .i64 ((a : Int) + 5), .int .i64 (n : Int), .int .i64 1] 121 w9) := (hr.f.block q3 X8.out.lt h3n4).trans X8.out
          have C9 := Lib.hid hr.r
          have HLEN : Hid ((lsS body stp (awS body stp) (a + 5, false)).2 = false → nv = lsN body stp (a + 5, false) ∧ LF (.slice Av2 nv cv2) nv) := fun hb => by
           obtain ⟨L2, h1, h3, _⟩ := hls hb
           have h4 := own_len h3
           have h1 : L2.length = lsN body stp (a + 5, false) := by have h0 := congrArg List.length h1; rw [List.length_map, lsV_len] at h0; exact h0
           exact ⟨h4.trans h1, _, _, rfl, fun h0 => hnl (by omega)⟩
          have hB8 := I8.out.hi
          have HO9 : Hid ((lsS body stp (awS body stp) (a + 5, false)).2 = false → AwsO B w9 (.slice Av2 nv cv2) (awsV body stp (a + 5, false))) := fun hb => by
           obtain ⟨L2, h1, h2, h3⟩ := hls hb
           exact ⟨L2, h1, own_base h2 hB8, fun x hx => (h3 x hx).base hB8⟩
          have y0 := I9.out.dbx.cell 7 (u := (.slice Aa na0 ca)) rfl
          have y1 := I9.out.dbx.free 7
          have yl := I9.out.dbx.lt
          have z0 := X9.out.cell 3 (u := .int .i64 1) rfl
          have z1 := X9.out.free 3
          have zl := X9.out.lt
          have F1 := frm_set w9 q2 7 (.slice Av2 nv cv2)
          have I10 : Hid (RdI w q1 q2 gb 0 cb B body (dbI hd (.slice Af nf0 cf) (.slice Av2 nv cv2) (.slice Ap np0 cp)) (a + 5, false) (.slice As ns cs) L (w9.setCell ⟨q2, 7, none⟩ (.slice Av2 nv cv2))) := I9.out.step F1 (fun j hj => .inl hj) (Bx.d7 I9.out.dbx _)
          have C10 := Lib.hid (C9.out.keep F1 (by omega) (by have := I9.out.o2; have := I9.out.o3; omega))
          have X10 : Hid (Bx q3 #[.int .u8 ((k : Int) + 1), .int .i64 ((a : Int) + 5), .int .i64 (n : Int), .int .i64 1] 121 (w9.setCell ⟨q2, 7, none⟩ (.slice Av2 nv cv2))) := (F1.block q3 X9.out.lt (by omega)).trans X9.out
          have F2 := frm_set (w9.setCell ⟨q2, 7, none⟩ (.slice Av2 nv cv2)) q3 3 (.int .i64 (nv : Int))
          have I11 := Lib.hid (I10.out.step F2 (fun j hj => .inr (by subst hj; exact HB3.out)) ((F2.block q2 I10.out.dbx.lt (by omega)).trans I10.out.dbx))
          have G1 : TFrm B rdTs w9 (w9.setCell ⟨q2, 7, none⟩ (.slice Av2 nv cv2)) := TFrm.of_frmT F1 I9.out.dbx (by simp [rdTs])
          have G2 : TFrm B rdTs (w9.setCell ⟨q2, 7, none⟩ (.slice Av2 nv cv2)) ((w9.setCell ⟨q2, 7, none⟩ (.slice Av2 nv cv2)).setCell ⟨q3, 3, none⟩ (.int .i64 (nv : Int))) := TFrm.of_frmT F2 X10.out (by simp [rdTs])
          have HG := Lib.hid (G1.trans G2)
          have Z11 := Lib.hid ((Z8.out.tf (TFrm.of_frmT hr.f C8.out.bx (by simp [rdTs]))).tf HG.out)
          clear G1 G2 hB8 Z8
          have C11 := Lib.hid (C10.out.keep F2 (by omega) (by have := I9.out.o2; have := I9.out.o3; omega))
          have X11 := Lib.hid (Bx.s43 X10.out (.int .i64 (nv : Int)))
          clear hr hls hnl I8 X8 C8 I9 X9 C9 I10 C10 X10 F1 F2
          go_wp2
          go_meet
          refine ⟨_, nv, I11.out, by rw [HSS.out]; exact C11.out, X11.out, fun hb => ?_⟩
          have hkj := HKJ.out
          have hmp := HMP.out
          rw [hkj] at hmp
          rw [HSS.out] at hb
          have h5 := HLEN.out hb
          have h12 : k + 1 = 3 := by omega
          rw [h12, secN_3]
          refine ⟨h5.1, ?_⟩
          rw [← HHD.out, if_neg (by omega)]
          refine ⟨DbK.s2 HLF.out h5.2 HLP.out (HNP.out (by omega)) hmp, ?_⟩
          have h6 := (HO9.out hb).tf HG.out
          rw [← HSTP.out] at h6
          exact ConS.s2 (hLk.out.trans hkj) Z11.out h6
         ·have t1 : (((k : Int) + 1) == 1) = false := by rw [beq_eq_false_iff_ne]; omega
          have t2 : (((k : Int) + 1) == 2) = false := by rw [beq_eq_false_iff_ne]; omega
          have t3 : (((k : Int) + 1) == 3) = false := by rw [beq_eq_false_iff_ne]; omega
          have HKJ := Lib.hid hkj
          have HSS : Hid (secS body stp (k + 1) (a + 5, false) = lsS body stp (prS body stp) (a + 5, false)) := by unfold Hid; rw [show k + 1 = 4 by omega]; exact secS_4 _ _ _
          clear hkj
          go_wp2_with fail
          refine (imLsProcS_any (a + 5, false) _ C8.out).mono ?_
          rintro e w9 ⟨v, rfl, ⟨Av2, nv, cv2, rfl⟩, hnl, hls, hr⟩
          have I9 := Lib.hid (I8.out.step hr.f (fun j hj => .inr (by subst hj; exact HB4.out)) ((hr.f.block q2 I8.out.dbx.lt (by omega)).trans I8.out.dbx))
          have X9 : Hid (Bx q3 #[.int .u8 ((k : Int) + 1), .int .i64 ((a : Int) + 5), .int .i64 (n : Int), .int .i64 1] 121 w9) := (hr.f.block q3 X8.out.lt h3n4).trans X8.out
          have C9 := Lib.hid hr.r
          have HLEN : Hid ((lsS body stp (prS body stp) (a + 5, false)).2 = false → nv = lsN body stp (a + 5, false) ∧ LF (.slice Av2 nv cv2) nv) := fun hb => by
           obtain ⟨L2, h1, h3, _⟩ := hls hb
           have h4 := own_len h3
           have h1 : L2.length = lsN body stp (a + 5, false) := by have h0 := congrArg List.length h1; rw [List.length_map, lsV_len] at h0; exact h0
           exact ⟨h4.trans h1, _, _, rfl, fun h0 => hnl (by omega)⟩
          have hB8 := I8.out.hi
          have HO9 : Hid ((lsS body stp (prS body stp) (a + 5, false)).2 = false → PrsO B w9 (.slice Av2 nv cv2) (prsV body stp (a + 5, false))) := fun hb => by
           obtain ⟨L2, h1, h2, h3⟩ := hls hb
           exact ⟨L2, h1, own_base h2 hB8, fun x hx => (h3 x hx).base hB8⟩
          have y0 := I9.out.dbx.cell 8 (u := (.slice Ap np0 cp)) rfl
          have y1 := I9.out.dbx.free 8
          have yl := I9.out.dbx.lt
          have z0 := X9.out.cell 3 (u := .int .i64 1) rfl
          have z1 := X9.out.free 3
          have zl := X9.out.lt
          have F1 := frm_set w9 q2 8 (.slice Av2 nv cv2)
          have I10 : Hid (RdI w q1 q2 gb 0 cb B body (dbI hd (.slice Af nf0 cf) (.slice Aa na0 ca) (.slice Av2 nv cv2)) (a + 5, false) (.slice As ns cs) L (w9.setCell ⟨q2, 8, none⟩ (.slice Av2 nv cv2))) := I9.out.step F1 (fun j hj => .inl hj) (Bx.d8 I9.out.dbx _)
          have C10 := Lib.hid (C9.out.keep F1 (by omega) (by have := I9.out.o2; have := I9.out.o3; omega))
          have X10 : Hid (Bx q3 #[.int .u8 ((k : Int) + 1), .int .i64 ((a : Int) + 5), .int .i64 (n : Int), .int .i64 1] 121 (w9.setCell ⟨q2, 8, none⟩ (.slice Av2 nv cv2))) := (F1.block q3 X9.out.lt (by omega)).trans X9.out
          have F2 := frm_set (w9.setCell ⟨q2, 8, none⟩ (.slice Av2 nv cv2)) q3 3 (.int .i64 (nv : Int))
          have I11 := Lib.hid (I10.out.step F2 (fun j hj => .inr (by subst hj; exact HB3.out)) ((F2.block q2 I10.out.dbx.lt (by omega)).trans I10.out.dbx))
          have G1 : TFrm B rdTs w9 (w9.setCell ⟨q2, 8, none⟩ (.slice Av2 nv cv2)) := TFrm.of_frmT F1 I9.out.dbx (by simp [rdTs])
          have G2 : TFrm B rdTs (w9.setCell ⟨q2, 8, none⟩ (.slice Av2 nv cv2)) ((w9.setCell ⟨q2, 8, none⟩ (.slice Av2 nv cv2)).setCell ⟨q3, 3, none⟩ (.int .i64 (nv : Int))) := TFrm.of_frmT F2 X10.out (by simp [rdTs])
          have HG := Lib.hid (G1.trans G2)
          have Z11 := Lib.hid ((Z8.out.tf (TFrm.of_frmT hr.f C8.out.bx (by simp [rdTs]))).tf HG.out)
          clear G1 G2 hB8 Z8
          have C11 := Lib.hid (C10.out.keep F2 (by omega) (by have := I9.out.o2; have := I9.out.o3; omega))
          have X11 := Lib.hid (Bx.s43 X10.out (.int .i64 (nv : Int)))
          clear hr hls hnl I8 X8 C8 I9 X9 C9 I10 C10 X10 F1 F2
          go_wp2
          go_meet
          refine ⟨_, nv, I11.out, by rw [HSS.out]; exact C11.out, X11.out, fun hb => ?_⟩
          have hkj := HKJ.out
          have hmp := HMP.out
          rw [hkj] at hmp
          rw [HSS.out] at hb
          have h5 := HLEN.out hb
          have h12 : k + 1 = 4 := by omega
          rw [h12, secN_4]
          refine ⟨h5.1, ?_⟩
          rw [← HHD.out, if_neg (by omega)]
          refine ⟨DbK.s3 HLF.out HLA.out h5.2 hmp, ?_⟩
          have h6 := (HO9.out hb).tf HG.out
          rw [← HSTP.out] at h6
          exact ConS.s3 (hLk.out.trans hkj) Z11.out h6
        case rest =>
         obtain ⟨db', cnt, J8, D8, Y8, HCN⟩ := hcut
         clear I8 X8 C8 Z8 HNF HNA HNP HLF HLA HLP HMP HHD HK0
         obtain ⟨sz, hsz⟩ : ∃ x, secS body stp (k + 1) (a + 5, false) = x := ⟨_, rfl⟩
         rw [hsz] at D8 HCN
         have HSZ := Lib.hid hsz
         obtain ⟨az, bz⟩ := sz
         have d1 := D8.out.bx.cell 1 (u := .int .i64 (az : Int)) rfl
         have d2 := D8.out.bx.cell 2 (u := .int .i64 (stp : Int)) rfl
         have d3 := D8.out.bx.cell 3 (u := .bool bz) rfl
         have hstp := HSTP.out
         clear hsz
         have HBAD : Hid (bz = true ∨ az ≠ stp → ∀ W, Below w.heap.size w W → ImReadPostS bs w (.returned (.tuple #[.agg dbZ9, .slice none 0 0, .int .i64 4])) W) := fun hb => HP.out (by
          rw [HGO.out, hgo.out, show 4 - k = (3 - k) + 1 by omega, rdG_sec HNN.out (by rw [HSTP.out, HSZ.out]; exact hb)]; rfl)
         have XJ : Hid (Bx q0 #[.string ⟨#[]⟩, .int .i64 0, .int .i64 0, .int .i64 0, .int .i64 0, .int .i64 0, .slice none 0 0, .slice none 0 0, .slice none 0 0] 30 wc) := by have := J8.out.res; rw [HQ.out] at this; exact this
         have BJ := Lib.hid J8.out.be
         cases bz with
         | true =>
          have HPN := Lib.hid (HBAD.out (.inl rfl))
          clear HBAD HCN J8 D8 Y8 hgo HP HOK
          go_wp2_with fail
          go_quiet (fail)
          have XQ : Hid (Bx q0 #[.string ⟨#[]⟩, .int .i64 0, .int .i64 0, .int .i64 0, .int .i64 0, .int .i64 0, .slice none 0 0, .slice none 0 0, .slice none 0 0] 30 (wc.drewN nq)) := XJ.out
          have BQ : Hid (Below w.heap.size w (wc.drewN nq)) := below_drewN' BJ.out nq
          obtain ⟨wq, hwq⟩ : ∃ W, wc.drewN nq = W := ⟨_, rfl⟩
          rw [hwq] at XQ BQ ⊢
          clear hwq d1 d2 d3 XJ BJ
          have XO : Hid (Bx q0 #[.string ⟨#[]⟩, .int .i64 0, .int .i64 0, .int .i64 0, .int .i64 0, .int .i64 0, .slice none 0 0, .slice none 0 0, .slice none 0 0] 30 _) := XQ.out
          go_wp2_with (refine wpList_plain rfl fun _ hK => wp_store_row 30 (.tmp 2) (.tmp 147) rfl q0 dbZ9 rfl rfl 30 _ XO.out infoDB9 rfl dbZ9_one (hK _ _ ?_))
          have FX : Bx q0 #[.string ⟨#[]⟩, .int .i64 0, .int .i64 0, .int .i64 0, .int .i64 0, .int .i64 0, .slice none 0 0, .slice none 0 0, .slice none 0 0] 30 _ := setRow_heap _ q0 _ dbZ9 30 (0, 0) XO.out
          obtain ⟨⟨x0, x1, x2, x3, x4, x5, x6, x7, x8⟩, _⟩ := Bx.cells9 FX
          refine bodyPost_ret (v := .tuple #[.agg dbZ9, .slice none 0 0, .int .i64 4]) (by simp [results, Tryz.results71, go_sem, x0, x1, x2, x3, x4, x5, x6, x7, x8]; try rfl) rfl ?_
          exact HPN.out _ (row_below BQ.out HQ.out)
         | false =>
          by_cases haz : az = stp
          ·have e9 : ((az : Int) == (stp : Int)) = true := by rw [beq_iff_eq]; omega
           have p9 : ((az : Int) != (stp : Int)) = false := by rw [bne, e9]; rfl
           subst haz
           have hcn := HCN.out rfl
           have hG : rdG body (4 - k) (k + 1) a = (rdG body (4 - (k + 1)) (k + 1 + 1) az).map ((k + 1, a + 5, n, cnt) :: ·) := by
            rw [show 4 - k = (4 - (k + 1)) + 1 by omega, rdG_more (n := n) (by rw [HT5.out]; simp) (by rw [HBV.out]; exact hbk) HNN.out (by rw [HNB.out]; exact hgt) (by rw [HSTP.out, HSZ.out]; simp) (by rw [HSTP.out, HSZ.out])]
            rw [HSTP.out, ← hcn.1]
           have HGN : Hid (rdG body 4 1 4 = (rdG body (4 - (k + 1)) (k + 1 + 1) az).map ((L ++ [(k + 1, a + 5, n, cnt)]) ++ ·)) := by
            unfold Hid
            rw [hgo.out, hG, Option.map_map]
            congr 1
            funext l
            simp
           have HDN := Lib.hid hcn.2.1
           have ZN := Lib.hid hcn.2.2
           have hzl : az ≤ body.length := by rw [HNB.out]; omega
           clear HBAD HCN hgo HP HOK hcn hG
           go_wp2_with fail
           go_quiet (fail)
           have JQ := Lib.hid (J8.out.below (below_drewN' (Below.refl _ _) nq))
           have ZQ := Lib.hid (ZN.out.tf (TFrm.of_below (below_drewN' (Below.refl _ _) nq)))
           have DQ : Hid (RdP q4 gb 0 cb az body (az, false) (wc.drewN nq)) := D8.out.below (below_drewN' (Below.refl _ _) nq)
           have YQ : Hid (Bx q3 #[.int .u8 ((k : Int) + 1), .int .i64 ((a : Int) + 5), .int .i64 (n : Int), .int .i64 (cnt : Int)] 121 (wc.drewN nq)) := Y8.out
           obtain ⟨wq, hwq⟩ : ∃ W, wc.drewN nq = W := ⟨_, rfl⟩
           rw [hwq] at JQ DQ YQ ZQ ⊢
           clear ZN
           clear hwq d1 d2 d3 XJ BJ J8 D8 Y8
           have d2 := DQ.out.bx.cell 2 (u := .int .i64 (az : Int)) rfl
           have r1 := JQ.out.rd.bx.cell 1 (u := .int .i64 ((a + 5 : Nat) : Int)) rfl
           have r1f := JQ.out.rd.bx.free 1
           have rl := JQ.out.rd.lt
           have K2 := Lib.hid (JQ.out.call (JQ.out.rd.seek hzl))
           have ZK := Lib.hid (ZQ.out.tf (TFrm.of_frmT (frm_set wq q1 1 (.int .i64 (az : Int))) JQ.out.rd.bx (by simp [rdTs])))
           have hq13 : q3 ≠ q1 := by have := JQ.out.o3; omega
           have Y2 : Hid (Bx q3 #[.int .u8 ((k : Int) + 1), .int .i64 ((a : Int) + 5), .int .i64 (n : Int), .int .i64 (cnt : Int)] 121 (wq.setCell ⟨q1, 1, none⟩ (.int .i64 (az : Int)))) := ((frm_set wq q1 1 (.int .i64 (az : Int))).block q3 YQ.out.lt hq13).trans YQ.out
           obtain ⟨wz, hwz⟩ : ∃ W, wq.setCell ⟨q1, 1, none⟩ (.int .i64 (az : Int)) = W := ⟨_, rfl⟩
           rw [hwz] at K2 Y2 ZK
           have HWZ := Lib.hid hwz
           clear hwz JQ DQ YQ ZQ
           go_upto_region 33 with fail
           rw [HWZ.out]
           clear HWZ d2 r1 r1f rl
           have s0 := Y2.out.cell 0 (u := .int .u8 ((k : Int) + 1)) rfl
           have s1 := Y2.out.cell 1 (u := .int .i64 ((a : Int) + 5)) rfl
           have s2 := Y2.out.cell 2 (u := .int .i64 (n : Int)) rfl
           have s3 := Y2.out.cell 3 (u := .int .i64 (cnt : Int)) rfl
           have HSC : Hid (secC (k + 1, a + 5, n, cnt) = [.int .u8 ((k : Int) + 1), .int .i64 ((a : Int) + 5), .int .i64 (n : Int), .int .i64 (cnt : Int)]) := by
            unfold Hid secC
            simp
           have hLl : L.length ≤ 4 := by have := hLk.out; omega
           have hBz := K2.out.hi
           have hkk2 : IntKind.u8.wrap ((k : Int) + 1 + 1) = (k : Int) + 1 + 1 := by rw [IntKind.wrap_u8']; omega
           have HKK2 := Lib.hid hkk2
           have hown0 := K2.out.own
           clear hkk2 hkk
           go_wp2_with (at_builtin; refine wpList_append_lies _ rfl _ _ 117 rfl B 121 i0 (.agg #[.int .u8 0, .int .i64 0, .int .i64 0, .int .i64 0]) 4 32 Tryz.underlying117 hi0 hz0 hz1 hz2 rfl (by decide) _ _ _ rfl (hown0.alloc _) ⟨wz.heap.size, 0, none⟩ 1 1 [.int .u8 ((k : Int) + 1), .int .i64 ((a : Int) + 5), .int .i64 (n : Int), .int .i64 (cnt : Int)] rfl rfl (World.news_of_block (heap_alloc_new wz _)) ?c2 (by decide) ?c3 ?c4 ?c5 _ rfl ?_)
           case c2 => intro u hu; simp only [List.mem_cons, List.not_mem_nil, or_false] at hu; rcases hu with rfl | rfl | rfl | rfl <;> rfl
           case c3 => unfold maxLen; omega
           case c4 => omega
           case c5 => simp; omega
           intro gg cap w3 hown3 hgrow3 hor hgg
           rw [← HSC.out] at hown3
           have R := Lib.hid (K2.out.push hown3 hgrow3)
           have ZR := Lib.hid (ZK.out.tf ((TFrm.of_below ((Below.refl _ _).alloc (Nat.le_refl _) _)).trans (TFrm.grown hgrow3 (hown0.alloc _) (by simp [rdTs]))))
           have HLN : Hid ((L ++ [(k + 1, a + 5, n, cnt)]).length = k + 1) := by unfold Hid; rw [List.length_append, hLk.out]; rfl
           have hkk2 := HKK2.out
           clear hown3 hgrow3 hor hgg hown0 K2 Y2 ZK s0 s1 s2 s3
           go_wp2
           go_roundw
           case rel => exact ⟨k + 1, az, _, _, hlt, by first | rfl | go_num, R, HDN, HGN, HLN, fun h => by omega, ZR⟩
           case measure => simp [intOf]; omega
          ·have e9 : ((az : Int) == (stp : Int)) = false := by rw [beq_eq_false_iff_ne]; omega
           have p9 : ((az : Int) != (stp : Int)) = true := by rw [bne, e9]; rfl
           have HPN := Lib.hid (HBAD.out (.inr haz))
           clear HBAD HCN J8 D8 Y8 hgo HP HOK haz
           go_wp2_with fail
           go_quiet (fail)
           have XQ : Hid (Bx q0 #[.string ⟨#[]⟩, .int .i64 0, .int .i64 0, .int .i64 0, .int .i64 0, .int .i64 0, .slice none 0 0, .slice none 0 0, .slice none 0 0] 30 (wc.drewN nq)) := XJ.out
           have BQ : Hid (Below w.heap.size w (wc.drewN nq)) := below_drewN' BJ.out nq
           obtain ⟨wq, hwq⟩ : ∃ W, wc.drewN nq = W := ⟨_, rfl⟩
           rw [hwq] at XQ BQ ⊢
           clear hwq d1 d2 d3 XJ BJ
           have XO : Hid (Bx q0 #[.string ⟨#[]⟩, .int .i64 0, .int .i64 0, .int .i64 0, .int .i64 0, .int .i64 0, .slice none 0 0, .slice none 0 0, .slice none 0 0] 30 _) := XQ.out
           go_wp2_with (refine wpList_plain rfl fun _ hK => wp_store_row 30 (.tmp 2) (.tmp 147) rfl q0 dbZ9 rfl rfl 30 _ XO.out infoDB9 rfl dbZ9_one (hK _ _ ?_))
           have FX : Bx q0 #[.string ⟨#[]⟩, .int .i64 0, .int .i64 0, .int .i64 0, .int .i64 0, .int .i64 0, .slice none 0 0, .slice none 0 0, .slice none 0 0] 30 _ := setRow_heap _ q0 _ dbZ9 30 (0, 0) XO.out
           obtain ⟨⟨x0, x1, x2, x3, x4, x5, x6, x7, x8⟩, _⟩ := Bx.cells9 FX
           refine bodyPost_ret (v := .tuple #[.agg dbZ9, .slice none 0 0, .int .i64 4]) (by simp [results, Tryz.results71, go_sem, x0, x1, x2, x3, x4, x5, x6, x7, x8]; try rfl) rfl ?_
           exact HPN.out _ (row_below BQ.out HQ.out)
     ·have e5 : (((bv : Int)) == (k : Int) + 1) = false := by rw [beq_eq_false_iff_ne]; omega
      have p5 : (((bv : Int)) != (k : Int) + 1) = true := by rw [bne, e5]; rfl
      have hG : rdG body (4 - k) (k + 1) a = none := by
       rw [show 4 - k = (3 - k) + 1 by omega]
       exact rdG_form (.inr (.inl (by rw [HBV.out]; exact hbk)))
      have HPN : Hid (∀ W, Below w.heap.size w W → ImReadPostS bs w (.returned (.tuple #[.agg dbZ9, .slice none 0 0, .int .i64 4])) W) := HP.out (by rw [HGO.out, hgo.out, hG]; rfl)
      have I6 := Lib.hid (I5.out.call I5.out.rd.failS)
      clear hbk hG hgo HP HOK I5
      go_wp2_with fail
      obtain ⟨a5, ha5⟩ : ∃ x, (tkS body.length 1 (a, false)).1 = x := ⟨_, rfl⟩
      rw [ha5] at I6
      refine (imLow_any (a5, true) 4 _ I6.out.rd (by omega)).mono ?_
      rintro e w7 ⟨rfl, hr⟩
      rw [tkS_bad rfl] at hr
      have I7 := Lib.hid (I6.out.call hr)
      have kb := hr.r.bx.cell 3 (u := .bool true) rfl
      obtain ⟨n7, hn7⟩ : ∃ x, IntKind.i64.wrap (loN (tkV body body.length 4 (a5, true))) = x := ⟨_, rfl⟩
      rw [hn7]
      have X7 : Hid (Bx q0 #[.string ⟨#[]⟩, .int .i64 0, .int .i64 0, .int .i64 0, .int .i64 0, .int .i64 0, .slice none 0 0, .slice none 0 0, .slice none 0 0] 30 w7) := by have := I7.out.res; rw [HQ.out] at this; exact this
      have B7 := Lib.hid I7.out.be
      clear hr I6 I7 kk3 ff3 ha5 hn7
      have XO : Hid (Bx q0 #[.string ⟨#[]⟩, .int .i64 0, .int .i64 0, .int .i64 0, .int .i64 0, .int .i64 0, .slice none 0 0, .slice none 0 0, .slice none 0 0] 30 _) := X7.out
      go_wp2_with (refine wpList_plain rfl fun _ hK => wp_store_row 30 (.tmp 2) (.tmp 68) rfl q0 dbZ9 rfl rfl 30 _ XO.out infoDB9 rfl dbZ9_one (hK _ _ ?_))
      have FX : Bx q0 #[.string ⟨#[]⟩, .int .i64 0, .int .i64 0, .int .i64 0, .int .i64 0, .int .i64 0, .slice none 0 0, .slice none 0 0, .slice none 0 0] 30 _ := setRow_heap _ q0 _ dbZ9 30 (0, 0) XO.out
      obtain ⟨⟨x0, x1, x2, x3, x4, x5, x6, x7, x8⟩, _⟩ := Bx.cells9 FX
      refine bodyPost_ret (v := .tuple #[.agg dbZ9, .slice none 0 0, .int .i64 4]) (by simp [results, Tryz.results71, go_sem, x0, x1, x2, x3, x4, x5, x6, x7, x8]; try rfl) rfl ?_
      exact HPN.out _ (row_below B7.out HQ.out)
  ·have e1 : ((sb l).toList == [70, 68, 66, 49]) = false := by rw [bl_toList, bl_sb, beq_eq_false_iff_ne]; exact hmg
   have HPN := Lib.hid (HP.out (magic_no (by rw [HLL.out]; exact hmg)))
   subst hvv
   clear hmg HLL HOK HP HR3
   have XO : Hid (Bx q0 #[.string ⟨#[]⟩, .int .i64 0, .int .i64 0, .int .i64 0, .int .i64 0, .int .i64 0, .slice none 0 0, .slice none 0 0, .slice none 0 0] 30 _) := X3.out
   go_wp2_with (refine wpList_plain rfl fun _ hK => wp_store_row 30 (.tmp 2) (.tmp 32) rfl q0 dbZ9 rfl rfl 30 _ XO.out infoDB9 rfl dbZ9_one (hK _ _ ?_))
   have FX : Bx q0 #[.string ⟨#[]⟩, .int .i64 0, .int .i64 0, .int .i64 0, .int .i64 0, .int .i64 0, .slice none 0 0, .slice none 0 0, .slice none 0 0] 30 _ := setRow_heap _ q0 _ dbZ9 30 (0, 0) XO.out
   obtain ⟨⟨x0, x1, x2, x3, x4, x5, x6, x7, x8⟩, _⟩ := Bx.cells9 FX
   refine bodyPost_ret (v := .tuple #[.agg dbZ9, .slice none 0 0, .int .i64 4]) (by simp [results, Tryz.results71, go_sem, x0, x1, x2, x3, x4, x5, x6, x7, x8]; try rfl) rfl ?_
   exact HPN.out _ (row_below B3.out HQ.out)
theorem imRead_any (v : Value) (bs : List UInt8) (w : World) (h : BsV w v bs) (hL : bs.length ≤ 1000000) :
  Calls Tryz.prog 71 #[v] w (ImReadPost bs w) := (imReadS_any v bs w h hL).mono fun e w' hp => by
 obtain ⟨f, a, p, sv, nf, na, np, h1, h2, h3, h4, h5, h6, h7, -⟩ := hp
 exact ⟨f, a, p, sv, nf, na, np, h1, h2, h3, h4, h5, h6, h7⟩
end Go.Proofs.YtlhniiakacbbeaaGreatDoor
