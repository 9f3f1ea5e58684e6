/-
  Several texts as one.
  Contract: slices.symMergeCmpFunc at structs, whatever the runs.
  Contracts: a stable sort of no airways and of no procedures.
-/
import Derived.Test.YtidkhnfhkofmoaaGreatDoorMG25
import Derived.Deep.DeepCutAuto
import Derived.Deep.CutBlock
namespace Go.Proofs.YtidkhnfhkofmoaaGreatDoor
open Go.RowKit Go.Lib Go.Sort
set_option linter.unusedVariables false
set_option linter.unusedSimpArgs false
theorem one_of {α : Type} {P : List α} (h : P.length = 1) : ∃ x, P = [x] := by
  match P, h with
  | [x], _ => exact ⟨x, rfl⟩
section
variable {α : Type} [Inhabited α]
set_option maxRecDepth 100000 in
set_option maxHeartbeats 8000000 in
theorem symMerge_fx (k : Nat) (aE : ∀ w, (isAgg 73).run Tryz.prog w = .ok true w) (zE : ∀ w, (Go.sizeOf 73).run Tryz.prog w = .ok k w) (enc : α → List Value) (cf : α → α → Int) (hsw : Swo (ltOf cf)) (g : Nat) (cb : Array Value) (eg : ∀ args w, (callFunc g args).run Tryz.prog w = .ok (.enter g args) w)
    (blk off cap N : Nat) (d0 : Array α) (w0 : World) (R : RowK enc k w0 blk off d0) (hN : d0.size = N) (hC : CmpLays Tryz.prog g cb enc k cf blk off N w0) (hsz : N < 4611686018427387904) :
    ∀ (s a m b : Nat) (A P Q B : List α) (w : World), b ≤ a + s → (A ++ P ++ Q ++ B).length = N → SWK enc k w0 blk off (A ++ P ++ Q ++ B).toArray w → a = A.length → m = a + P.length → b = m + Q.length → 0 < P.length → 0 < Q.length → Srt (ltOf cf) P → Srt (ltOf cf) Q →
    Calls Tryz.prog 193 #[.slice (some ⟨blk, off, none⟩) N cap, .int .i64 a, .int .i64 m, .int .i64 b, .func (.func g) #[] cb] w (SymPost_fx enc k cf w0 blk off A P Q B) := by
  intro s
  induction s with
  | zero => intro a m b A P Q B w hbs hs S ha hm hb hp hq hsP hsQ; omega
  | succ s ih =>
    intro a m b A P Q B w hbs hs S ha hm hb hp hq hsP hsQ
    by_cases hp1 : P.length = 1
    · obtain ⟨x, rfl⟩ := one_of hp1
      exact symOne_fx k aE zE enc cf hsw g cb eg blk off cap a m b N A Q B x d0 w0 w R hN hC hs S ha (by rw [hm, hp1]) hb hsz hsQ
    · by_cases hq1 : Q.length = 1
      · obtain ⟨y, rfl⟩ := one_of hq1
        exact symLast_fx k aE zE enc cf hsw g cb eg blk off cap a m b N A P B y d0 w0 w R hN hC hs S ha hm (by rw [hb, hq1]) (by omega) hsz hsP
      · have mixed := mixedS
        have IH := Lib.hid ih
        clear ih
        obtain ⟨dk, hdk⟩ : ∃ dk, (A ++ P ++ Q ++ B).toArray = dk := ⟨_, rfl⟩
        have hdN : dk.size = N := by rw [← hdk, List.size_toArray]; exact hs
        rw [hdk] at S
        have S0 : Aside (SWK enc k w0 blk off dk w) := S
        have hlen : N = A.length + P.length + Q.length + B.length := by rw [← hs]; simp only [List.length_append]
        have hbN : b ≤ N := by omega
        have ham : a + 2 ≤ m := by omega
        have hmb : m + 2 ≤ b := by omega
        have HA : Hid (A.length = a ∧ a + P.length = m ∧ m + Q.length = b ∧ (A ++ P ++ Q ++ B).toArray = dk ∧ (A ++ P ++ Q ++ B).length = N) := ⟨ha.symm, hm.symm, hb.symm, hdk, hs⟩
        have HSW := Lib.hid hsw
        have HSP := Lib.hid hsP
        have HSQ := Lib.hid hsQ
        have HC : Aside _ := hC
        have HE : Hid (∀ w' W, Mrg (ltOf cf) P Q W → SWK enc k w0 blk off (A ++ W ++ B).toArray w' → SymPost_fx enc k cf w0 blk off A P Q B (.returned (.tuple #[])) w') := fun w' W h1 h2 => ⟨rfl, W, h1, h2⟩
        have HQ : Hid (∀ t, m ≤ t → t < b → ∃ y, dk[t]! = y) := fun t _ _ => ⟨_, rfl⟩
        have e1 : ((m : Int) - (a : Int) == 1) = false := by rw [beq_eq_false_iff_ne]; omega
        have e2 : ((b : Int) - (m : Int) == 1) = false := by rw [beq_eq_false_iff_ne]; omega
        have ham2 : a ≤ m := by omega
        have hmb2 : m ≤ b := by omega
        obtain ⟨md, hmd⟩ : ∃ md, (a + b) / 2 = md := ⟨_, rfl⟩
        have hmdz : ((a : Int) + (b : Int)) / 2 = (md : Int) := by omega
        have hmd1 : a < md := by omega
        have hmd2 : md < b := by omega
        have hmd3 : 2 * md ≤ a + b := by omega
        have hmd4 : a + b ≤ 2 * md + 1 := by omega
        have hbs' := Lib.hid hbs
        clear S ha hb hs hlen hC hsw hm hdk hsP hsQ hp hq hp1 hq1 hbs hmd
        generalize SymPost_fx enc k cf w0 blk off A P Q B = Post at HE ⊢
        go_enter Tryz.func193, Tryz.ntmps193
        go_upto_if 140 with (fail)
        go_cut [20, 21] (fun vs vr wx => ∃ s0 r0 : Nat, vs = .int .i64 s0 ∧ vr = .int .i64 r0 ∧ a ≤ s0 ∧ s0 ≤ r0 ∧ r0 ≤ m ∧ r0 ≤ md ∧ md + m ≤ b + s0 ∧ Hid (SyIn a m b md s0 r0) ∧ Aside (SWK enc k w0 blk off dk wx))
        case first =>
          by_cases hmm : md < m
          · have hmmz : (md : Int) < (m : Int) := by omega
            go_wp2
            go_meet
            exact ⟨md + m - b, md, by rw [show ((md : Int) + (m : Int) - (b : Int)) = ((md + m - b : Nat) : Int) by omega], rfl, by omega, by omega, by omega, Nat.le_refl _, by omega, .inr ⟨hmm, by omega, rfl⟩, S0⟩
          · have hmmz : ¬ (md : Int) < (m : Int) := by omega
            go_wp2
            go_meet
            exact ⟨a, m, rfl, rfl, Nat.le_refl _, by omega, Nat.le_refl _, by omega, by omega, .inl ⟨by omega, rfl, rfl⟩, S0⟩
        case rest =>
          obtain ⟨s0, r0, rfl, rfl, hs0, hsr, hr0, hrm, hsb, HIN, S1⟩ := hcut
          clear S0
          go_upto_block 8 with fail
          go_cut [20, 21, 23] from 149 to 174 (fun vs vr _ wx => ∃ st : Nat, vs = .int .i64 st ∧ vr = .int .i64 st ∧ s0 ≤ st ∧ st ≤ r0 ∧ Hid (Sy (ltOf cf) dk (md + m) s0 r0 st st) ∧ Aside (SWK enc k w0 blk off dk wx))
          case first =>
           go_wp2_with fail
           go_loopg [20, 21] (r0 - s0) (fun g1 vs vr wr => ∃ (s r : Nat), vs = .int .i64 s ∧ vr = .int .i64 r ∧ s0 ≤ s ∧ s ≤ r ∧ r ≤ r0 ∧ r - s ≤ g1 ∧ Aside (SWK enc k w0 blk off dk wr) ∧ Hid (Sy (ltOf cf) dk (md + m) s0 r0 s r))
           case atStart => exact ⟨s0, r0, rfl, rfl, Nat.le_refl _, hsr, Nat.le_refl _, Nat.le_refl _, S1, ⟨.inl rfl, .inl rfl⟩⟩
           case round =>
             clear S1
             obtain ⟨st, rr, rfl, rfl, hst, hstr, hrr, hg1, S2, HI⟩ := hrel
             by_cases hlt : st < rr
             · have hltz : (st : Int) < (rr : Int) := by omega
               obtain ⟨c, hc⟩ : ∃ c, (st + rr) / 2 = c := ⟨_, rfl⟩
               have hcz : ((st : Int) + (rr : Int)) / 2 = (c : Int) := by omega
               have hc1 : st ≤ c := by omega
               have hc2 : c < rr := by omega
               obtain ⟨pc, hpc⟩ : ∃ pc, md + m - 1 - c = pc := ⟨_, rfl⟩
               have hpcz : (md : Int) + (m : Int) - 1 - (c : Int) = (pc : Int) := by omega
               have hpN : (pc : Int) < (N : Int) := by omega
               have hcN : (c : Int) < (N : Int) := by omega
               have hwp : IntKind.i64.wrap (pc : Int) = (pc : Int) := by rw [IntKind.wrap_i64]; omega
               have hwc : IntKind.i64.wrap (c : Int) = (c : Int) := by rw [IntKind.wrap_i64]; omega
               obtain ⟨x, hx⟩ : ∃ x, dk[pc]! = x := ⟨_, rfl⟩
               obtain ⟨z, hz⟩ : ∃ z, dk[c]! = z := ⟨_, rfl⟩
               have lp := S2.out.ld R (by omega) Tryz.prog pc (by omega)
               have lc := S2.out.ld R (by omega) Tryz.prog c (by omega)
               have hcg := S2.out.cmp HC.out hdN x z
               rw [hx] at lp
               rw [hz] at lc
               have HX : Hid (dk[pc]! = x ∧ dk[c]! = z ∧ md + m - 1 - c = pc) := ⟨hx, hz, hpc⟩
               clear hc hx hz hpc
               by_cases hlv : cf x z < 0
               · have hlb : decide (cf x z < 0) = true := decide_eq_true hlv
                 go_wp2_with fail
                 go_quiet_grown (first | (go_at_fn g; refine Calls.grown_of (hcg _ _)))
                 have S3 : Aside (SWK enc k w0 blk off dk (grow (wr.drewN nq) osq)) := S2.out.grown nq osq
                 clear lp lc hcg S2
                 generalize grow (wr.drewN nq) osq = wq at S3 ⊢
                 go_wp2
                 go_roundg (c - st)
                 case measure => omega
                 case rel => exact ⟨st, c, rfl, rfl, hst, hc1, by omega, Nat.le_refl _, S3, ⟨HI.out.lo, .inr (by rw [HX.out.2.2, HX.out.1, HX.out.2.1]; exact ltOf_true hlv)⟩⟩
               · have hlb : decide (cf x z < 0) = false := decide_eq_false hlv
                 go_wp2_with fail
                 go_quiet_grown (first | (go_at_fn g; refine Calls.grown_of (hcg _ _)))
                 have S3 : Aside (SWK enc k w0 blk off dk (grow (wr.drewN nq) osq)) := S2.out.grown nq osq
                 clear lp lc hcg S2
                 generalize grow (wr.drewN nq) osq = wq at S3 ⊢
                 go_wp2
                 go_roundg (rr - (c + 1))
                 case measure => omega
                 case rel => exact ⟨c + 1, rr, by go_num, rfl, by omega, by omega, hrr, Nat.le_refl _, S3, ⟨.inr (by rw [show md + m - (c + 1) = md + m - 1 - c by omega, HX.out.2.2, HX.out.1, Nat.add_sub_cancel, HX.out.2.1]; exact ltOf_false (by omega)), HI.out.hi⟩⟩
             · have hltz : ¬ (st : Int) < (rr : Int) := by omega
               have hrs : rr = st := by omega
               subst hrs
               go_wp2
               go_meet
               exact ⟨rr, rfl, rfl, hst, hrr, HI, S2⟩
          case rest =>
           obtain ⟨rr, rfl, rfl, hst, hrr, HI, S2⟩ := hcut
           clear S1
           obtain ⟨en, hen⟩ : ∃ en, md + m - rr = en := ⟨_, rfl⟩
           have henz : (md : Int) + (m : Int) - (rr : Int) = (en : Int) := by omega
           have hen1 : m ≤ en := by omega
           have hen2 : en ≤ b := by omega
           have hst1 : a ≤ rr := by omega
           have hst2 : rr ≤ m := by omega
           have HCND := Lib.hid (sym_end HA.out.2.2.2.1.symm HA.out.1 HA.out.2.1 HA.out.2.2.1 HIN.out HI.out hst hrr hs0 hr0 (by omega) hen1 hen2)
           obtain ⟨p1, hp1⟩ : ∃ p1, P.take (rr - a) = p1 := ⟨_, rfl⟩
           obtain ⟨u, hu⟩ : ∃ u, P.drop (rr - a) = u := ⟨_, rfl⟩
           obtain ⟨v, hv⟩ : ∃ v, Q.take (en - m) = v := ⟨_, rfl⟩
           obtain ⟨q2, hq2⟩ : ∃ q2, Q.drop (en - m) = q2 := ⟨_, rfl⟩
           have HPu : Hid (P = p1 ++ u) := by rw [← hp1, ← hu]; exact (List.take_append_drop _ _).symm
           have HQv : Hid (Q = v ++ q2) := by rw [← hv, ← hq2]; exact (List.take_append_drop _ _).symm
           have HLN : Hid (p1.length = rr - a ∧ u.length = m - rr ∧ v.length = en - m ∧ q2.length = b - en) := by
             have h2 := HA.out.2.1
             have h3 := HA.out.2.2.1
             refine ⟨by rw [← hp1, List.length_take]; omega, by rw [← hu, List.length_drop]; omega, by rw [← hv, List.length_take]; omega, by rw [← hq2, List.length_drop]; omega⟩
           rw [hp1, hu, hv, hq2] at HCND
           have HEN : Hid (rr + en = md + m) := by unfold Hid; omega
           have S3 : Aside (SWK enc k w0 blk off (A ++ p1 ++ u ++ v ++ (q2 ++ B)).toArray wc) := by
             have : dk = (A ++ p1 ++ u ++ v ++ (q2 ++ B)).toArray := by rw [← HA.out.2.2.2.1, HPu.out, HQv.out]; simp
             rw [← this]; exact S2.out
           have HTN : Hid ((A ++ p1 ++ u ++ v ++ (q2 ++ B)).length = N) := by
             have h4 := HA.out.2.2.2.2
             rw [HPu.out, HQv.out] at h4
             unfold Hid; rw [← h4]; simp only [List.length_append]; omega
           clear hen hp1 hu hv hq2 S2 HI
           go_upto_region 39 with (fail)
           go_cut [185] from 178 to 185 (fun v wx => v = .bool (decide (rr < m ∧ m < en)) ∧ wx = wc)
           case first =>
             by_cases g1 : rr < m
             · have g1z : (rr : Int) < (m : Int) := by omega
               by_cases g2 : m < en
               · have g2z : (m : Int) < (en : Int) := by omega
                 have gd : decide (rr < m ∧ m < en) = true := decide_eq_true ⟨g1, g2⟩
                 go_wp2
                 go_meet
                 exact ⟨by rw [gd], rfl⟩
               · have g2z : ¬ (m : Int) < (en : Int) := by omega
                 have gd : decide (rr < m ∧ m < en) = false := decide_eq_false fun h => g2 h.2
                 go_wp2
                 go_meet
                 exact ⟨by rw [gd], rfl⟩
             · have g1z : ¬ (rr : Int) < (m : Int) := by omega
               have gd : decide (rr < m ∧ m < en) = false := decide_eq_false fun h => g1 h.1
               go_wp2
               go_meet
               exact ⟨by rw [gd], rfl⟩
           case rest =>
            obtain ⟨hv5, rfl⟩ := hcut
            subst hv5
            go_upto_if 185 with (fail)
            go_cut [186] (fun _ wx => Aside (SWK enc k w0 blk off (A ++ p1 ++ v ++ (u ++ q2 ++ B)).toArray wx))
            case first =>
              by_cases g1 : rr < m
              · have g1z : (rr : Int) < (m : Int) := by omega
                by_cases g2 : m < en
                · have g2z : (m : Int) < (en : Int) := by omega
                  have hc := rotate_fx k aE zE enc blk off cap rr m en N (.func (.func g) #[] cb) (A ++ p1) u v (q2 ++ B) d0 w0 wc R hN HTN.out S3.out
                    (by have h1 := HLN.out.1; have h2 := HA.out.1; rw [List.length_append]; omega) (by have h1 := HLN.out.1; have h2 := HA.out.1; have h3 := HLN.out.2.1; rw [List.length_append]; omega)
                    (by have h1 := HLN.out.2.2.1; omega) (by have h1 := HLN.out.2.1; omega) (by have h1 := HLN.out.2.2.1; omega) hsz
                  clear S3
                  go_wp2_with fail
                  refine hc.mono ?_
                  rintro e w2 ⟨rfl, S4⟩
                  have S5 : Aside (SWK enc k w0 blk off (A ++ p1 ++ v ++ (u ++ q2 ++ B)).toArray w2) := by
                    have e : A ++ p1 ++ v ++ (u ++ q2 ++ B) = A ++ p1 ++ v ++ u ++ (q2 ++ B) := by simp
                    rw [e]; exact S4
                  clear S4 hc
                  go_wp2
                  go_meet
                  exact S5
                · have g2z : ¬ (m : Int) < (en : Int) := by omega
                  have h0 : v = [] := List.eq_nil_of_length_eq_zero (by have := HLN.out.2.2.1; omega)
                  have S5 : Aside (SWK enc k w0 blk off (A ++ p1 ++ v ++ (u ++ q2 ++ B)).toArray wc) := by
                    have e : A ++ p1 ++ v ++ (u ++ q2 ++ B) = A ++ p1 ++ u ++ v ++ (q2 ++ B) := by rw [h0]; simp
                    rw [e]; exact S3.out
                  clear S3 h0
                  go_wp2
                  go_meet
                  exact S5
              · have g1z : ¬ (rr : Int) < (m : Int) := by omega
                have h0 : u = [] := List.eq_nil_of_length_eq_zero (by have := HLN.out.2.1; omega)
                have S5 : Aside (SWK enc k w0 blk off (A ++ p1 ++ v ++ (u ++ q2 ++ B)).toArray wc) := by
                  have e : A ++ p1 ++ v ++ (u ++ q2 ++ B) = A ++ p1 ++ u ++ v ++ (q2 ++ B) := by rw [h0]; simp
                  rw [e]; exact S3.out
                clear S3 h0
                go_wp2
                go_meet
                exact S5
            case rest =>
              have S5 := hcut
              clear S3 HTN hcut
              have HSp1 : Hid (Srt (ltOf cf) p1) := by have := HSP.out; rw [HPu.out] at this; exact this.left
              have HSu : Hid (Srt (ltOf cf) u) := by have := HSP.out; rw [HPu.out] at this; exact this.right
              have HSv : Hid (Srt (ltOf cf) v) := by have := HSQ.out; rw [HQv.out] at this; exact this.left
              have HSq2 : Hid (Srt (ltOf cf) q2) := by have := HSQ.out; rw [HQv.out] at this; exact this.right
              have HTN : Hid ((A ++ p1 ++ v ++ (u ++ q2 ++ B)).length = N) := by
                have h4 := HA.out.2.2.2.2
                rw [HPu.out, HQv.out] at h4
                unfold Hid; rw [← h4]; simp only [List.length_append]; omega
              go_upto_region 41 with (fail)
              go_cut [199] from 192 to 199 (fun v wx => v = .bool (decide (a < rr ∧ rr < md)) ∧ wx = wc)
              case first =>
                by_cases g1 : a < rr
                · have g1z : (a : Int) < (rr : Int) := by omega
                  by_cases g2 : rr < md
                  · have g2z : (rr : Int) < (md : Int) := by omega
                    have gd : decide (a < rr ∧ rr < md) = true := decide_eq_true ⟨g1, g2⟩
                    go_wp2
                    go_meet
                    exact ⟨by rw [gd], rfl⟩
                  · have g2z : ¬ (rr : Int) < (md : Int) := by omega
                    have gd : decide (a < rr ∧ rr < md) = false := decide_eq_false fun h => g2 h.2
                    go_wp2
                    go_meet
                    exact ⟨by rw [gd], rfl⟩
                · have g1z : ¬ (a : Int) < (rr : Int) := by omega
                  have gd : decide (a < rr ∧ rr < md) = false := decide_eq_false fun h => g1 h.1
                  go_wp2
                  go_meet
                  exact ⟨by rw [gd], rfl⟩
              case rest =>
               obtain ⟨hv5, rfl⟩ := hcut
               subst hv5
               go_upto_if 199 with (fail)
               go_cut [200] (fun _ wx => ∃ w1, Hid (Mrg (ltOf cf) p1 v w1) ∧ Aside (SWK enc k w0 blk off (A ++ w1 ++ (u ++ q2 ++ B)).toArray wx))
               case first =>
                 by_cases g1 : a < rr
                 · have g1z : (a : Int) < (rr : Int) := by omega
                   by_cases g2 : rr < md
                   · have g2z : (rr : Int) < (md : Int) := by omega
                     have hc := IH.out a rr md A p1 v (u ++ q2 ++ B) wc (by have := hbs'.out; omega) HTN.out S5.out HA.out.1.symm (by have := HLN.out.1; omega) (by have h1 := HLN.out.2.2.1; have h2 := HEN.out; omega) (by have := HLN.out.1; omega) (by have h1 := HLN.out.2.2.1; have h2 := HEN.out; omega) HSp1.out HSv.out
                     clear S5
                     go_wp2_with fail
                     refine hc.mono ?_
                     rintro e w2 ⟨rfl, w1, hw1, S6⟩
                     have S7 := asd S6
                     have HW1 := Lib.hid hw1
                     clear S6 hc hw1
                     go_wp2
                     go_meet
                     exact ⟨w1, HW1, S7⟩
                   · have g2z : ¬ (rr : Int) < (md : Int) := by omega
                     have h0 : v = [] := List.eq_nil_of_length_eq_zero (by have h1 := HLN.out.2.2.1; have h2 := HEN.out; omega)
                     have HW1 : Hid (Mrg (ltOf cf) p1 v p1) := by rw [h0]; exact Mrg.nil_right HSp1.out
                     have S7 : Aside (SWK enc k w0 blk off (A ++ p1 ++ (u ++ q2 ++ B)).toArray wc) := by have := S5.out; rw [h0, List.append_nil] at this; exact this
                     clear S5 h0
                     go_wp2
                     go_meet
                     exact ⟨p1, HW1, S7⟩
                 · have g1z : ¬ (a : Int) < (rr : Int) := by omega
                   have h0 : p1 = [] := List.eq_nil_of_length_eq_zero (by have h1 := HLN.out.1; omega)
                   have HW1 : Hid (Mrg (ltOf cf) p1 v v) := by rw [h0]; exact Mrg.nil_left HSv.out
                   have S7 : Aside (SWK enc k w0 blk off (A ++ v ++ (u ++ q2 ++ B)).toArray wc) := by have := S5.out; rw [h0, List.append_nil] at this; exact this
                   clear S5 h0
                   go_wp2
                   go_meet
                   exact ⟨v, HW1, S7⟩
               case rest =>
                 obtain ⟨w1, HW1, S7⟩ := hcut
                 clear S5 HTN
                 have HW1L : Hid (A.length + w1.length = md) := by
                   have h1 := HW1.out.len
                   have h2 := HLN.out.1
                   have h3 := HLN.out.2.2.1
                   have h4 := HEN.out
                   have h5 := HA.out.1
                   unfold Hid; omega
                 have S8 : Aside (SWK enc k w0 blk off (A ++ w1 ++ u ++ q2 ++ B).toArray wc) := by
                   have e : A ++ w1 ++ u ++ q2 ++ B = A ++ w1 ++ (u ++ q2 ++ B) := by simp
                   rw [e]; exact S7.out
                 have HTN : Hid ((A ++ w1 ++ u ++ q2 ++ B).length = N) := by
                   have h4 := HA.out.2.2.2.2
                   rw [HPu.out, HQv.out] at h4
                   have h5 := HW1.out.len
                   unfold Hid; rw [← h4]; simp only [List.length_append] at h5 ⊢; omega
                 have HFIN : Hid (∀ w2, Mrg (ltOf cf) u q2 w2 → Mrg (ltOf cf) P Q (w1 ++ w2)) := fun w2 h2 => by
                   have h3 := HSP.out
                   have h4 := HSQ.out
                   rw [HPu.out] at h3 ⊢
                   rw [HQv.out] at h4 ⊢
                   exact sym_mrg HSW.out h3 h4 HCND.out.1 HCND.out.2 HW1.out h2
                 clear S7
                 go_upto_region 43 with (fail)
                 go_cut [213] from 206 to 213 (fun v wx => v = .bool (decide (md < en ∧ en < b)) ∧ wx = wc)
                 case first =>
                   by_cases g1 : md < en
                   · have g1z : (md : Int) < (en : Int) := by omega
                     by_cases g2 : en < b
                     · have g2z : (en : Int) < (b : Int) := by omega
                       have gd : decide (md < en ∧ en < b) = true := decide_eq_true ⟨g1, g2⟩
                       go_wp2
                       go_meet
                       exact ⟨by rw [gd], rfl⟩
                     · have g2z : ¬ (en : Int) < (b : Int) := by omega
                       have gd : decide (md < en ∧ en < b) = false := decide_eq_false fun h => g2 h.2
                       go_wp2
                       go_meet
                       exact ⟨by rw [gd], rfl⟩
                   · have g1z : ¬ (md : Int) < (en : Int) := by omega
                     have gd : decide (md < en ∧ en < b) = false := decide_eq_false fun h => g1 h.1
                     go_wp2
                     go_meet
                     exact ⟨by rw [gd], rfl⟩
                 case rest =>
                  obtain ⟨hv5, rfl⟩ := hcut
                  subst hv5
                  by_cases g1 : md < en
                  · have g1z : (md : Int) < (en : Int) := by omega
                    by_cases g2 : en < b
                    · have g2z : (en : Int) < (b : Int) := by omega
                      have hc := IH.out md en b (A ++ w1) u q2 B wc (by have := hbs'.out; omega) HTN.out S8.out (by rw [List.length_append]; exact HW1L.out.symm) (by have h1 := HLN.out.2.1; have h2 := HEN.out; omega) (by have h1 := HLN.out.2.2.2; omega) (by have h1 := HLN.out.2.1; have h2 := HEN.out; omega) (by have h1 := HLN.out.2.2.2; omega) HSu.out HSq2.out
                      clear S8
                      go_wp2_with fail
                      refine hc.mono ?_
                      rintro e w2 ⟨rfl, v2, hw2, S9⟩
                      have S10 : Aside (SWK enc k w0 blk off (A ++ (w1 ++ v2) ++ B).toArray w2) := by
                        have e : A ++ (w1 ++ v2) ++ B = A ++ w1 ++ v2 ++ B := by simp
                        rw [e]; exact S9
                      have HW2 := Lib.hid hw2
                      clear S9 hc hw2
                      go_wp2
                      go_end0
                      exact HE.out _ _ (HFIN.out _ HW2.out) S10.out
                    · have g2z : ¬ (en : Int) < (b : Int) := by omega
                      have h0 : q2 = [] := List.eq_nil_of_length_eq_zero (by have h1 := HLN.out.2.2.2; omega)
                      have HW2 : Hid (Mrg (ltOf cf) u q2 u) := by rw [h0]; exact Mrg.nil_right HSu.out
                      have S10 : Aside (SWK enc k w0 blk off (A ++ (w1 ++ u) ++ B).toArray wc) := by
                        have e : A ++ (w1 ++ u) ++ B = A ++ w1 ++ u ++ q2 ++ B := by rw [h0]; simp
                        rw [e]; exact S8.out
                      clear S8 h0
                      go_wp2
                      go_end0
                      exact HE.out _ _ (HFIN.out _ HW2.out) S10.out
                  · have g1z : ¬ (md : Int) < (en : Int) := by omega
                    have h0 : u = [] := List.eq_nil_of_length_eq_zero (by have h1 := HLN.out.2.1; have h2 := HEN.out; omega)
                    have HW2 : Hid (Mrg (ltOf cf) u q2 q2) := by rw [h0]; exact Mrg.nil_left HSq2.out
                    have S10 : Aside (SWK enc k w0 blk off (A ++ (w1 ++ q2) ++ B).toArray wc) := by
                      have e : A ++ (w1 ++ q2) ++ B = A ++ w1 ++ u ++ q2 ++ B := by rw [h0]; simp
                      rw [e]; exact S8.out
                    clear S8 h0
                    go_wp2
                    go_end0
                    exact HE.out _ _ (HFIN.out _ HW2.out) S10.out
end
end Go.Proofs.YtidkhnfhkofmoaaGreatDoor
namespace Go.Proofs.YtidkhnfhkofmoaaGreatDoor
open Go.RowKit Go.Lib Go.Sort
set_option linter.unusedVariables false
set_option linter.unusedSimpArgs false
theorem stable0_air (A : Option Addr) (cap : Nat) (fv : Value) (w : World) : Calls Tryz.prog 36 #[.slice A 0 cap, fv] w fun e w' => e = .returned (.tuple #[]) ∧ w' = w := by
 have h1 : ∀ w, Calls Tryz.prog 131 #[.slice A 0 cap, .int .i64 0, .int .i64 0, fv] w fun e w' => e = .returned (.tuple #[]) ∧ w' = w := by
  intro w
  go_enter Tryz.func131, Tryz.ntmps131
  go_wp2
  go_loopg [8] 0 (fun g i wr => i = .int .i64 1 ∧ wr = w)
  case atStart => exact ⟨rfl, rfl⟩
  case round =>
   obtain ⟨rfl, hw⟩ := hrel
   have HW := Lib.hid hw
   clear hw
   go_wp2
   go_end0
   exact ⟨rfl, HW.out⟩
 have h2 : ∀ w, Calls Tryz.prog 83 #[.slice A 0 cap, .int .i64 0, fv] w fun e w' => e = .returned (.tuple #[]) ∧ w' = w := by
  intro w
  go_enter Tryz.func83, Tryz.ntmps83
  go_wp2
  go_loopg [7, 8] 0 (fun g a b wr => a = .int .i64 0 ∧ b = .int .i64 20 ∧ wr = w)
  case atStart => exact ⟨rfl, rfl, rfl⟩
  case round =>
   obtain ⟨rfl, rfl, hw⟩ := hrel
   have HW := Lib.hid hw
   clear hw
   go_wp2_with fail
   refine (h1 _).mono ?_
   rintro e w2 ⟨rfl, hw2⟩
   have HW2 : Hid (w2 = w) := hw2.trans HW.out
   clear hw2
   go_wp2
   go_loopg [6] 0 (fun g a wr => a = .int .i64 20 ∧ wr = w)
   case atStart => exact ⟨rfl, HW2.out⟩
   case round =>
    obtain ⟨rfl, hw⟩ := hrel
    have HW := Lib.hid hw
    clear hw
    go_wp2
    go_end0
    exact ⟨rfl, HW.out⟩
 go_enter Tryz.func36, Tryz.ntmps36
 go_wp2_with fail
 refine (h2 _).mono ?_
 rintro e w2 ⟨rfl, rfl⟩
 go_wp2
 go_end0
 exact ⟨rfl, rfl⟩
theorem stable0_proc (A : Option Addr) (cap : Nat) (fv : Value) (w : World) : Calls Tryz.prog 39 #[.slice A 0 cap, fv] w fun e w' => e = .returned (.tuple #[]) ∧ w' = w := by
 have h1 : ∀ w, Calls Tryz.prog 133 #[.slice A 0 cap, .int .i64 0, .int .i64 0, fv] w fun e w' => e = .returned (.tuple #[]) ∧ w' = w := by
  intro w
  go_enter Tryz.func133, Tryz.ntmps133
  go_wp2
  go_loopg [8] 0 (fun g i wr => i = .int .i64 1 ∧ wr = w)
  case atStart => exact ⟨rfl, rfl⟩
  case round =>
   obtain ⟨rfl, hw⟩ := hrel
   have HW := Lib.hid hw
   clear hw
   go_wp2
   go_end0
   exact ⟨rfl, HW.out⟩
 have h2 : ∀ w, Calls Tryz.prog 85 #[.slice A 0 cap, .int .i64 0, fv] w fun e w' => e = .returned (.tuple #[]) ∧ w' = w := by
  intro w
  go_enter Tryz.func85, Tryz.ntmps85
  go_wp2
  go_loopg [7, 8] 0 (fun g a b wr => a = .int .i64 0 ∧ b = .int .i64 20 ∧ wr = w)
  case atStart => exact ⟨rfl, rfl, rfl⟩
  case round =>
   obtain ⟨rfl, rfl, hw⟩ := hrel
   have HW := Lib.hid hw
   clear hw
   go_wp2_with fail
   refine (h1 _).mono ?_
   rintro e w2 ⟨rfl, hw2⟩
   have HW2 : Hid (w2 = w) := hw2.trans HW.out
   clear hw2
   go_wp2
   go_loopg [6] 0 (fun g a wr => a = .int .i64 20 ∧ wr = w)
   case atStart => exact ⟨rfl, HW2.out⟩
   case round =>
    obtain ⟨rfl, hw⟩ := hrel
    have HW := Lib.hid hw
    clear hw
    go_wp2
    go_end0
    exact ⟨rfl, HW.out⟩
 go_enter Tryz.func39, Tryz.ntmps39
 go_wp2_with fail
 refine (h2 _).mono ?_
 rintro e w2 ⟨rfl, rfl⟩
 go_wp2
 go_end0
 exact ⟨rfl, rfl⟩
end Go.Proofs.YtidkhnfhkofmoaaGreatDoor
