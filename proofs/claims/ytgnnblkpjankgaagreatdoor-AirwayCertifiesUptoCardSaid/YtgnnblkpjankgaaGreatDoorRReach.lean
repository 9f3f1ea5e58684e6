/-
  Contracts: place, reach and Reach of the reference.
-/
import Derived.Test.YtgnnblkpjankgaaGreatDoorAppF
import Derived.Test.YtgnnblkpjankgaaGreatDoorPlaceL
import Derived.Test.YtgnnblkpjankgaaGreatDoorReachT
namespace Go.Proofs.YtgnnblkpjankgaaGreatDoor
open Go.RowKit
set_option linter.unusedVariables false
set_option linter.unusedSimpArgs false

def PlacePost (l : List Rf) (d : Rf) (w : World) (e : Ending) (w' : World) : Prop := ∃ b, e = .returned (.tuple #[.int .i64 (plc d l : Int), .bool b]) ∧ Hid (b = decide (l[plc d l]? = some d)) ∧ w = w'
set_option maxHeartbeats 1000000 in
theorem place_any (v : Value) (l : List Rf) (d : ByteArray) (w : World) (h : StrR w v l) :
    Calls Tryz.prog 26 #[v, .string d] w (PlacePost l (bl d) w) := by
  obtain ⟨A, c, rfl, hc, hm⟩ := h.form
  unfold maxLen at hm
  obtain ⟨n, hn⟩ : ∃ n, l.length = n := ⟨_, rfl⟩
  have HN := Lib.hid hn
  rw [hn] at h hc ⊢
  have H := Lib.hid h
  have HP : Hid (plc (bl d) l = 0 + plc (bl d) (l.drop 0)) := by unfold Hid; rw [Nat.zero_add, List.drop_zero]
  have HF : Hid (∀ (k : Nat) (b : Bool), plc (bl d) l = k → Hid (b = decide (l[k]? = some (bl d))) → PlacePost l (bl d) w (.returned (.tuple #[.int .i64 (k : Int), .bool b])) w) := fun k b h1 h2 => ⟨b, by rw [h1], by rw [h1]; exact h2, rfl⟩
  clear h hn
  go_enter Tryz.func26, Tryz.ntmps26
  go_wp2
  go_loop [10] (fun iv => ∃ k : Nat, k ≤ n ∧ iv = .int .i64 k ∧ Hid (plc (bl d) l = k + plc (bl d) (l.drop k))) (fun iv => n - (intOf iv).toNat)
  case atStart => exact ⟨0, Nat.zero_le _, rfl, HP⟩
  case round =>
    obtain ⟨k, hk, rfl, hp⟩ := hrel
    by_cases hlt : k < n
    · have hkl : k < l.length := by rw [HN.out]; exact hlt
      obtain ⟨g, o, c1, hv, _, y1⟩ := H.out.at_ hkl
      rw [HN.out] at hv
      simp only [Value.slice.injEq, true_and] at hv
      obtain ⟨rfl, rfl⟩ := hv
      have hki : (k : Int) < (n : Int) := by omega
      have HX : Hid (l[k]? = some l[k]) := List.getElem?_eq_getElem hkl
      have HA := Lib.hid (fun h => plc_at (d := bl d) hkl hp.out h)
      have HB := Lib.hid (fun h => plc_here (d := bl d) hkl hp.out h)
      obtain ⟨x, hx⟩ : ∃ x, l[k] = x := ⟨_, rfl⟩
      rw [hx] at y1 HX HA HB
      clear hx hkl hp
      cases hle : leB (bl d) x with
      | true =>
        have h0 : ¬ x < bl d := fun h => by rw [leB_lt.2 h] at hle; cases hle
        have e1 : Op.bytesLess (sb x).toList d.toList = false := by
          rw [bl_toList, bl_toList, bl_sb, bytesLess_eq]; exact decide_eq_false h0
        have HE := Lib.hid (HB.out hle)
        clear hle h0 HA HB
        by_cases he : x = bl d
        · have e2 : ((sb x).toList == d.toList) = true := by rw [str_eq, bl_sb]; exact decide_eq_true he
          have HQ : Hid (true = decide (l[k]? = some (bl d))) := by unfold Hid; rw [HX.out, he]; simp
          clear he
          go_wp2
          go_ret2
          exact HF.out _ _ HE.out HQ
        · have e2 : ((sb x).toList == d.toList) = false := by rw [str_eq, bl_sb]; exact decide_eq_false he
          have HQ : Hid (false = decide (l[k]? = some (bl d))) := by unfold Hid; rw [HX.out]; simp [he]
          clear he
          go_wp2
          go_ret2
          exact HF.out _ _ HE.out HQ
      | false =>
        have e1 : Op.bytesLess (sb x).toList d.toList = true := by
          rw [bl_toList, bl_toList, bl_sb, bytesLess_eq]; exact decide_eq_true (leB_lt.1 hle)
        have HE := Lib.hid (HA.out hle)
        clear hle HA HB
        go_wp2
        go_round
        case rel => exact ⟨k + 1, hlt, by go_num, HE⟩
        case measure => simp [intOf]; omega
    · have HE : Hid (plc (bl d) l = n) := by
        unfold Hid; rw [hp.out, plc_end (by have := HN.out; omega)]; omega
      have HQ : Hid (false = decide (l[n]? = some (bl d))) := by
        unfold Hid; rw [List.getElem?_eq_none (by have := HN.out; omega)]; simp
      go_wp2
      go_ret2
      exact HF.out _ _ HE.out HQ
/-- a slice's length -/
def lenV : Value → Nat
  | .slice _ n _ => n
  | _ => 0
theorem srt_len (q : List Rf) : (srt q).length = q.length := (srt_perm q).length_eq
theorem strR_one (w : World) (x : List UInt8) : StrR (w.alloc (.cells #[.string (sb x)] 9)) (.slice (some ⟨w.heap.size, 0, none⟩) 1 1) [x] :=
  Rd.of_own (World.ownsRow_lit (base := 0) (e := 9) (size := 1) w #[.string (sb x)] 1 (Nat.zero_le _) (by unfold maxLen; omega) rfl)
theorem rfcells_at {l : List Rf} {k : Nat} (h : k < l.length) : (rfcells l)[k]? = some (.string (sb l[k])) := by
  unfold rfcells; rw [List.getElem?_map, List.getElem?_eq_getElem h]; rfl
/-- all texts of a row -/
theorem StrR.row {w : World} {v : Value} {l : List Rf} (h : StrR w v l) (h0 : 0 < l.length) : ∃ g o c, v = .slice (some ⟨g, o, none⟩) l.length c ∧ l.length ≤ c ∧ c ≤ maxLen ∧ g < w.heap.size ∧ ∀ k u, (rfcells l)[k]? = some u → w.cell? ⟨g, o + k, none⟩ = some u := by
  obtain ⟨hl, A, c, hv, hc, hm, hr⟩ := h
  obtain ⟨g, o, rfl, hg, hx⟩ := hr h0
  exact ⟨g, o, c, hv, hc, hm, hg, hx⟩
theorem strR_mk {w : World} {g o c : Nat} {l : List Rf} (hc : l.length ≤ c) (hm : c ≤ maxLen) (hg : g < w.heap.size) (hx : ∀ k u, (rfcells l)[k]? = some u → w.cell? ⟨g, o + k, none⟩ = some u) : StrR w (.slice (some ⟨g, o, none⟩) l.length c) l :=
  ⟨by unfold rfcells; rw [List.length_map]; omega, some ⟨g, o, none⟩, c, rfl, hc, hm, fun _ => ⟨g, o, rfl, hg, hx⟩⟩
/-- texts in memory, at an address even where there are none -/
def RowS (w : World) (v : Value) (l : List Rf) : Prop := ∃ g o c, v = .slice (some ⟨g, o, none⟩) l.length c ∧ l.length ≤ c ∧ c ≤ maxLen ∧ g < w.heap.size ∧ ∀ k u, (rfcells l)[k]? = some u → w.cell? ⟨g, o + k, none⟩ = some u
theorem RowS.below {w w' : World} {v : Value} {l : List Rf} (h : RowS w v l) (hb : Below w.heap.size w w') : RowS w' v l := by
  obtain ⟨g, o, c, hv, h1, h2, h3, h4⟩ := h
  exact ⟨g, o, c, hv, h1, h2, Nat.lt_of_lt_of_le h3 hb.size, fun k u hu => (hb.cell (p := ⟨g, o + k, none⟩) h3).trans (h4 k u hu)⟩
theorem rowS_tail {w : World} {g o n c : Nat} {l : List Rf} (hl : l.length = n) (h0 : 0 < n) (hc : n ≤ c) (hm : c ≤ maxLen) (hg : g < w.heap.size) (hx : ∀ k u, (rfcells l)[k]? = some u → w.cell? ⟨g, o + k, none⟩ = some u) (o' : Nat) (ho : o' = o + 1 ∨ c = 1) :
    RowS w (.slice (some ⟨g, o', none⟩) (n - 1) (c - 1)) (l.drop 1) := by
  have hd : (l.drop 1).length = n - 1 := by rw [List.length_drop]; omega
  refine ⟨g, o', c - 1, by rw [hd], by omega, by omega, hg, fun j u hu => ?_⟩
  rcases ho with rfl | ho
  · rw [show o + 1 + j = o + (1 + j) by omega]
    refine hx _ _ ?_
    rw [← hu]
    unfold rfcells
    rw [List.getElem?_map, List.getElem?_map, List.getElem?_drop]
  · exfalso
    have : (rfcells (l.drop 1)).length = 0 := by unfold rfcells; rw [List.length_map]; omega
    rw [List.getElem?_eq_none (by omega)] at hu
    cases hu
theorem one_at {w : World} {B : Nat} {x : Value} (h : w.cell? ⟨B, 0, none⟩ = some x) : ∀ j u, [x][j]? = some u → w.cell? ((⟨B, 0, none⟩ : Addr).add j) = some u := by
  intro j u hu
  match j, hu with
  | 0, hu => rw [← Option.some.inj hu, Addr.add_lit]; exact h
  | j + 1, hu => exact absurd hu (by simp)
theorem own_zero (w : World) (t : TypeId) {base : Nat} (h : base ≤ w.heap.size) : (w.alloc (.cells #[] t)).ownsRow base t 1 (.slice (some ⟨w.heap.size, 0, none⟩) 0 0) 0 [] :=
  World.ownsRow_lit w #[] 0 h (by unfold maxLen; omega) rfl
theorem own_zero1 (w : World) (o : Obj) (t : TypeId) {base : Nat} (h : base ≤ w.heap.size) : ((w.alloc o).alloc (.cells #[] t)).ownsRow base t 1 (.slice (some ⟨w.heap.size + 1, 0, none⟩) 0 0) 0 [] := by
  have h1 := own_zero (w.alloc o) t (base := base) (by rw [World.size_alloc]; omega)
  rw [World.size_alloc] at h1
  exact h1
theorem rowS_own {w : World} {base : Nat} {v : Value} {l : List Rf} {n : Nat} {xs : List Value} (h : w.ownsRow base 9 1 v n xs) (h0 : 0 < n) (hl : l.length = n) (hx : rfcells l = xs) : RowS w v l := by
  subst hl
  subst hx
  exact StrR.row (Rd.of_own h) h0
theorem rfcells_drop (l : List Rf) (k j : Nat) : (rfcells (l.drop k))[j]? = (rfcells l)[k + j]? := by
  unfold rfcells; rw [List.getElem?_map, List.getElem?_map, List.getElem?_drop]
set_option maxRecDepth 100000 in
set_option maxHeartbeats 40000000 in
theorem rreach_any (v : Value) (L : List Aw) (r : ByteArray) (w : World) (h : AwsR w v L) (hL : L.length ≤ 60) (hN : (allRefs L).length ≤ 100000) :
    Calls Tryz.prog 34 #[v, .string r] w (ReachPost L (bl r) w) := by
  obtain ⟨i0, hi0, hz0, hz1, hz2⟩ := info_parts infoString
  have H := Lib.hid h
  obtain ⟨res, hres⟩ : ∃ res, found L (bl r) = res := ⟨_, rfl⟩
  have HRES := Lib.hid hres
  have HPOST : Hid (∀ (v' : Value) (w' : World), StrR w' v' (srt res) → Below w.heap.size w w' → ReachPost L (bl r) w (.returned v') w') := fun v' w' h1 h2 => ⟨v', rfl, by unfold reachL; rw [hres]; exact h1, h2⟩
  have S0 : Hid (StrR ((w.alloc (.cells #[.string r] 9)).alloc (.cells #[.string r] 9)) (.slice (some ⟨w.heap.size, 0, none⟩) 1 1) (srt [bl r])) := by
    have h1 := strR_one w (bl r)
    rw [sb_bl] at h1
    rw [show srt [bl r] = [bl r] from List.mergeSort_singleton _]
    exact h1.below ((Below.refl _ _).alloc (Nat.le_refl _) _)
  have S1 : Hid (RowS ((w.alloc (.cells #[.string r] 9)).alloc (.cells #[.string r] 9)) (.slice (some ⟨w.heap.size + 1, 0, none⟩) 1 1) ([bl r].drop 0)) := by
    have h1 := strR_one (w.alloc (.cells #[.string r] 9)) (bl r)
    rw [sb_bl] at h1
    simp only [World.size_alloc] at h1
    exact StrR.row h1 Nat.one_pos
  have B0 : Hid (Below w.heap.size w ((w.alloc (.cells #[.string r] 9)).alloc (.cells #[.string r] 9))) := ((Below.refl _ _).alloc (Nat.le_refl _) _).alloc (by simp) _
  clear h hres
  go_enter Tryz.func34, Tryz.ntmps34
  go_wp2_with fail
  go_loopw [5, 6] (fun ov tv wr => ∃ (q : List Rf) (i f : Nat), Hid (lenV ov = q.length ∧ lenV tv = q.length - i) ∧ 0 < q.length ∧ i ≤ q.length ∧ f + i = (allRefs L).length + 2 ∧ Hid (q.Nodup ∧ ∀ x ∈ q, x ∈ bl r :: allRefs L) ∧ Hid (StrR wr ov (srt q)) ∧ Hid (RowS wr tv (q.drop i)) ∧ Hid (bfs (nxt L) f q i = res) ∧ Hid (Below w.heap.size w wr)) (fun ov tv _ => (allRefs L).length + 2 - (lenV ov - lenV tv))
  case atStart =>
    exact ⟨[bl r], 0, _, ⟨rfl, rfl⟩, Nat.one_pos, Nat.zero_le _, rfl, ⟨by simp, by simp⟩, S0, S1, HRES.out, B0⟩
  case round =>
    obtain ⟨q, i, f, hlv, hq0, hi, hfi, hq, hout, htodo, hbfs, hbr⟩ := hrel
    have hqn := nodup_le q _ hq.out.1 hq.out.2
    rw [List.length_cons] at hqn
    obtain ⟨Ao, co, rfl, hco, hcom⟩ := hout.out.form
    obtain ⟨g, o, ct, rfl, hct, hctm, hgs, hx⟩ := htodo.out
    have hnt : (q.drop i).length = q.length - i := List.length_drop
    obtain ⟨nt, hnte⟩ : ∃ nt, (q.drop i).length = nt := ⟨_, rfl⟩
    rw [hnte] at hnt
    rw [srt_len] at hout hco ⊢
    rw [hnte] at hct ⊢
    have HX := Lib.hid hx
    unfold maxLen at hcom hctm
    have HNT := Lib.hid hnte
    have HNT2 := Lib.hid hnt
    clear hnte hx
    rcases Nat.eq_zero_or_pos nt with h0 | h0
    · have hi2 : i = q.length := by omega
      have HE : Hid (srt q = srt res) := by unfold Hid; rw [← hbfs.out, bfs_end (by omega)]
      have h0' : (nt : Int) ≤ 0 := by omega
      have HOUT := Lib.hid hout.out
      have HH0 := Lib.hid h0
      have HI2 := Lib.hid hi2
      clear h0 hi2 hnt
      go_wp2
      go_ret
      exact HPOST.out _ _ (by rw [← HE.out]; have h := HOUT.out; exact h) hbr.out
    · have hiq : i < q.length := by omega
      obtain ⟨f, rfl⟩ : ∃ f', f = f' + 1 := ⟨f - 1, by omega⟩
      have HB : Hid (bfs (nxt L) f (addAll q (nxt L q[i])) (i + 1) = res) := by
        have h := hbfs.out
        rw [bfs_step hiq] at h
        exact h
      have hcell : wr.cell? ⟨g, o, none⟩ = some (.string (sb q[i])) := by
        have h1 := HX.out 0 (.string (sb q[i])) (by rw [rfcells_drop]; exact rfcells_at hiq)
        exact h1
      have HNX : Hid (∀ x ∈ nxt L q[i], x ∈ bl r :: allRefs L) := fun x hx => List.mem_cons_of_mem _ (nxt_mem L q[i] x hx)
      obtain ⟨s, hs⟩ : ∃ s, q[i] = s := ⟨_, rfl⟩
      rw [hs] at HB hcell HNX
      have hnt1 : (0 : Int) < (nt : Int) := by omega
      have hnt2 : (1 : Int) ≤ (nt : Int) := by omega
      have HIQ := Lib.hid hiq
      clear hbfs hs hiq hnt
      have HTL : Hid (∀ o', o' = o + 1 ∨ ct = 1 → RowS wr (.slice (some ⟨g, o', none⟩) (nt - 1) (ct - 1)) (q.drop (i + 1))) := by
        intro o' ho'
        have h := rowS_tail HNT.out h0 hct (by unfold maxLen; exact hctm) hgs HX.out o' ho'
        rw [List.drop_drop] at h
        exact h
      by_cases hc1 : ct = 1
      case' pos =>
        have HC1 := Lib.hid hc1
        have hct1 : (ct : Int) ≤ 1 := by omega
        have T1 := Lib.hid (HTL.out o (.inr hc1))
        clear hc1
      case' neg =>
        have hct1 : (1 : Int) < (ct : Int) := by omega
        have hct2 : 1 < ct := by omega
        have T1 := Lib.hid (HTL.out (o + 1) (.inl rfl))
        clear hc1
      all_goals
        go_wp2_with fail
        refine (hops_rindex_any v L (sb s) _ (H.out.below hbr.out) hL).mono ?_
        rintro e w2 ⟨vh, rfl, hvh, hb2⟩
        rw [bl_sb] at hvh
        have T2 := Lib.hid (T1.out.below hb2)
        have O2 := Lib.hid (hout.out.below hb2)
        have hbr2 := Lib.hid (hbr.out.trans (hb2.mono hbr.out.size))
        have hhl := hopsL_len L s
        have HNL : Hid (nxt L s = (hopsL L s).map (·.dst)) := rfl
        have HDST := Lib.hid (hops_dst L s)
        obtain ⟨hl, hhe⟩ : ∃ hl, hopsL L s = hl := ⟨_, rfl⟩
        rw [hhe] at hvh hhl HNL HDST
        clear hhe hb2 hcell
        obtain ⟨m, hm⟩ : ∃ m, hl.length = m := ⟨_, rfl⟩
        have HM := Lib.hid hm
        obtain ⟨Ah, ch, rfl, hc1, hc2⟩ := hvh.form
        have HV := Lib.hid hvh
        rw [hm] at hhl HV hc1 ⊢
        clear hm hvh
        unfold maxLen at hc2
        go_wp2_with fail
        go_loopw [5, 6, 28] (fun ov tv jv wr => ∃ (q' : List Rf) (j : Nat), jv = .int .i64 j ∧ j ≤ m ∧ Hid (q' = addAll q ((nxt L s).take j)) ∧ Hid (StrR wr ov (srt q')) ∧ Hid (RowS wr tv (q'.drop (i + 1))) ∧ Hid (HpsR wr (.slice Ah m ch) hl) ∧ Hid (Below w.heap.size w wr)) (fun _ _ jv _ => m - (intOf jv).toNat)
        case atStart => exact ⟨q, 0, rfl, Nat.zero_le _, rfl, by first | exact O2 | (unfold Hid; rw [← srt_len] at O2; exact O2.out), T2, HV, hbr2⟩
        case round =>
          obtain ⟨q', j, rfl, hj, hqe, hout', htodo', hhp, hbx⟩ := hrel
          have hq1 : q'.Nodup := by rw [hqe.out]; exact addAll_nodup _ _ hq.out.1
          have hq2 : ∀ x ∈ q', x ∈ bl r :: allRefs L := by
            intro x hx
            rw [hqe.out, addAll_mem] at hx
            rcases hx with hx | hx
            · exact hq.out.2 x hx
            · exact HNX.out x (List.mem_of_mem_take hx)
          have hqn' := nodup_le q' _ hq1 hq2
          rw [List.length_cons] at hqn'
          have hqq : q.length ≤ q'.length := by
            obtain ⟨t, ht⟩ := addAll_ext ((nxt L s).take j) q
            rw [hqe.out, ht, List.length_append]; omega
          clear hq1 hq2
          obtain ⟨Ao', co', rfl, hco', hcom'⟩ := hout'.out.form
          obtain ⟨gt, ot, ct', rfl, hct', hctm', hgt, hxt⟩ := htodo'.out
          rw [srt_len] at hout' hco' ⊢
          obtain ⟨nt', hnt'⟩ : ∃ nt', (q'.drop (i + 1)).length = nt' := ⟨_, rfl⟩
          have hnt2' : nt' = q'.length - (i + 1) := by rw [← hnt', List.length_drop]
          rw [hnt'] at htodo' hct' ⊢
          have HXT := Lib.hid hxt
          clear hxt
          have HNTP := Lib.hid hnt'
          have HNTQ := Lib.hid hnt2'
          unfold maxLen at hcom' hctm'
          clear hnt' hnt2'
          by_cases hlj : j < m
          · have hjl : j < hl.length := by rw [HM.out]; exact hlj
            obtain ⟨gh, oh, ch', hA, hgh, x0, x1, x2, x3⟩ := hhp.out.at_ hjl
            rw [HM.out] at hA
            simp only [Value.slice.injEq, true_and] at hA
            obtain ⟨rfl, rfl⟩ := hA
            have HD := HDST.out _ (List.getElem_mem hjl)
            have hTK : (nxt L s).take (j + 1) = (nxt L s).take j ++ [hl[j].dst] := by
              rw [HNL.out, List.take_succ_eq_append_getElem (by rw [List.length_map]; exact hjl), List.getElem_map]
            have hAD : Hid (addAll q ((nxt L s).take (j + 1)) = if hl[j].dst ∈ q' then q' else q' ++ [hl[j].dst]) := by
              unfold Hid; rw [hTK, addAll_snoc, ← hqe.out]
            obtain ⟨p, hp⟩ : ∃ p, hl[j] = p := ⟨_, rfl⟩
            rw [hp] at x0 x1 x2 x3 hAD HD
            have HJL := Lib.hid hjl
            clear hp hTK HD hjl
            have hji : (j : Int) < (m : Int) := by omega
            obtain ⟨wb, hwb⟩ : ∃ wb, wr.alloc (.cells #[.string (sb p.aw), .string (sb p.dst), .int .i64 p.lo, .int .i64 p.hi] 48) = wb := ⟨_, rfl⟩
            have HWB := Lib.hid hwb
            have hstep : Below wr.heap.size wr wb := by rw [← hwb]; exact (Below.refl wr.heap.size wr).alloc (Nat.le_refl _) _
            have HB1 := Lib.hid (Below.then_ hbx.out hstep)
            have HO1 := Lib.hid (hout'.out.below hstep)
            have HT1 := Lib.hid (htodo'.out.below hstep)
            have HP1 := Lib.hid (hhp.out.below hstep)
            have hy1 : wb.cell? ⟨wr.heap.size, 1, none⟩ = some (.string (sb p.dst)) := by rw [← hwb]; simp [go_sem]
            have hsz1 : wb.heap.size = wr.heap.size + 1 := by rw [← hwb]; simp
            have HY1 := Lib.hid hy1
            have HSZ1 := Lib.hid hsz1
            clear hwb hhp hstep hy1 hsz1
            go_wp2_with fail
            rw [HWB.out]
            refine (place_any _ (srt q') (sb p.dst) _ (by first | exact HO1.out | (have h := HO1.out; rw [← srt_len q'] at h; exact h))).mono ?_
            rintro e w3 ⟨b, rfl, hbe, rfl⟩
            rw [bl_sb] at hbe ⊢
            have hiff := plc_mem p.dst (srt q') (srt_sorted q')
            rw [srt_mem] at hiff
            have hpl := plc_le p.dst (srt q')
            rw [srt_len] at hpl
            have HIN := Lib.hid (insL_plc p.dst (srt q'))
            by_cases hmem : p.dst ∈ q'
            · obtain rfl : b = true := by rw [hbe.out, decide_eq_true (hiff.1 hmem)]
              have HE : Hid (q' = addAll q ((nxt L s).take (j + 1))) := by unfold Hid; rw [hAD.out, if_pos hmem]
              clear hbe hiff hmem
              go_wp2
              go_roundw
              case rel => exact ⟨q', j + 1, by go_num, hlj, HE, by first | exact HO1 | (have h := HO1.out; rw [← srt_len q'] at h; exact h), HT1, HP1, HB1.out⟩
              case measure => simp [intOf]; omega
            · obtain rfl : b = false := by rw [hbe.out, decide_eq_false (fun h => hmem (hiff.2 h))]
              have HE : Hid (q' ++ [p.dst] = addAll q ((nxt L s).take (j + 1))) := by unfold Hid; rw [hAD.out, if_neg hmem]
              clear hbe hiff hmem
              obtain ⟨a, ha⟩ : ∃ a, plc p.dst (srt q') = a := ⟨_, rfl⟩
              rw [ha] at hpl HIN ⊢
              clear ha
              obtain ⟨go, oo, cc, hA, hnc, hncm, hgo, hx⟩ := HO1.out.row (by rw [srt_len]; omega)
              rw [srt_len] at hA
              simp only [Value.slice.injEq, true_and] at hA
              obtain ⟨rfl, rfl⟩ := hA
              have HX1 := Lib.hid hx
              have hz1' : wr.heap.size < wb.heap.size := by have := HSZ1.out; omega
              have hz2' : wb.heap.size ≤ wr.heap.size + 1 := by have := HSZ1.out; omega
              have hwb0 : w.heap.size ≤ wb.heap.size := HB1.out.size
              have hgo' : go < wb.heap.size := hgo
              have y1 := HY1.out
              have s1 : (0 : Int) ≤ (a : Int) := by omega
              have s2 : (a : Int) ≤ (q'.length : Int) := by omega
              have s3 : (a : Int) ≤ (co' : Int) := by omega
              have s4 : a ≤ co' := by omega
              have HL1 : Hid ((rfcells ((srt q').drop a)).length = (q'.length - a) * 1) := by
                unfold Hid rfcells; rw [List.length_map, List.length_drop, srt_len]; omega
              have HL2 : Hid ((rfcells ((srt q').take a)).length = a * 1) := by
                unfold Hid rfcells; rw [List.length_map, List.length_take, srt_len]; omega
              have HN2 : Hid (∀ wx, Below wb.heap.size wb wx → ∀ k u, (rfcells ((srt q').take a))[k]? = some u → wx.cell? ((⟨go, oo, none⟩ : Addr).add k) = some u) := by
                intro wx hbw k u hu
                rw [Addr.add_lit]
                have hk : k < a := by
                  have h1 := HL2.out
                  rcases Nat.lt_or_ge k a with h | h
                  · exact h
                  · rw [List.getElem?_eq_none (by omega)] at hu; cases hu
                have h2 : (rfcells (srt q'))[k]? = some u := by
                  rw [← hu]; unfold rfcells
                  rw [List.getElem?_map, List.getElem?_map, List.getElem?_take_of_lt hk]
                exact (hbw.cell (p := ⟨go, oo + k, none⟩) hgo').trans (HX1.out k u h2)
              have HOC : Hid (∀ l : List Rf, ∀ u ∈ [Value.string (sb p.dst)] ++ rfcells l, u.oneCell' = true) := by
                intro l u hu
                rw [List.mem_append] at hu
                rcases hu with hu | hu
                · simp at hu; subst hu; rfl
                · unfold rfcells at hu; rw [List.mem_map] at hu; obtain ⟨x, _, rfl⟩ := hu; rfl
              have HSN : Hid (rfcells (srt (q' ++ [p.dst])) = rfcells ((srt q').take a) ++ ([Value.string (sb p.dst)] ++ rfcells ((srt q').drop a))) := by
                unfold Hid; rw [srt_snoc, HIN.out]; unfold rfcells; rw [List.map_append]; rfl
              clear hx HO1 hbx
              by_cases hca : co' = a
              case' pos =>
                have s5 : (co' : Int) ≤ (a : Int) := by omega
                have HCA := Lib.hid hca
                have hca2 := hca.symm
                have HN1 : Hid (∀ wx, Below wb.heap.size wb wx → ∀ k u, (rfcells ((srt q').drop a))[k]? = some u → wx.cell? ((⟨go, oo, none⟩ : Addr).add k) = some u) := by
                  intro wx _ k u hu
                  exfalso
                  have h1 := HL1.out
                  rw [List.getElem?_eq_none (by omega)] at hu
                  cases hu
                clear hca HCA
                subst hca2
                go_wp2_with fail
                go_region_held3 (fun wx => wx.cell? ⟨wr.heap.size, 1, none⟩ = some (.string (sb p.dst)))
                  (first
                    | go_keep
                    | (rw [hgrow5.cell_far _ (by simp; omega) (by simp)]; assumption))
                  (first | (refine step_append_full _ (by rfl) _ _ _ (by rfl) w.heap.size 9 i0 (.string ⟨#[]⟩) 1 16 Tryz.underlying71 hi0 hz0 hz1 hz2 rfl ⟨go, oo, none⟩ a (rfcells ((srt q').take a)) (by rfl) HL2.out (HN2.out _ (((Below.refl wb.heap.size wb).alloc (Nat.le_refl _) _).drew)) ⟨wb.heap.size, 0, none⟩ 1 1 [.string (sb p.dst)] (by rfl) rfl (World.news_of_block (cs := #[.string (sb p.dst)]) (t := 9) (fr := (0, 0)) (heap_alloc_new wb _)) (by omega) (by unfold maxLen; omega) (by omega) (by simp; omega) ?_; intro v5 w5 hown5 hgrow5; have HBW5 := Lib.hid ((((Below.refl wb.heap.size wb).alloc (Nat.le_refl _) (.cells #[.string (sb p.dst)] 9)).drew).grown hgrow5 (by simp) (fun k hk => by cases hk)); have hsz5 := HBW5.out.size) | fail)
                have HOUT5 : Hid (RowS w5 v5 (srt (q' ++ [p.dst]))) := by
                  refine rowS_own hown5 (by omega) (by rw [srt_len, List.length_append, List.length_singleton]; omega) ?_
                  rw [HSN.out]
                  have h1 := HL1.out
                  have h2 : rfcells ((srt q').drop a) = [] := List.eq_nil_of_length_eq_zero (by omega)
                  rw [h2, List.append_nil]
                clear hown5 hgrow5
              case' neg =>
                have s5 : (a : Int) < (co' : Int) := by omega
                have s6 : a < co' := by omega
                have HN1 : Hid (∀ wx, Below wb.heap.size wb wx → ∀ k u, (rfcells ((srt q').drop a))[k]? = some u → wx.cell? ((⟨go, oo + a, none⟩ : Addr).add k) = some u) := by
                  intro wx hbw k u hu
                  rw [rfcells_drop] at hu
                  rw [Addr.add_lit]
                  have h1 := HX1.out (a + k) u hu
                  rw [show oo + a + k = oo + (a + k) by omega]
                  exact (hbw.cell (p := ⟨go, oo + (a + k), none⟩) hgo').trans h1
                go_wp2_with fail
                go_region_held3 (fun wx => wx.cell? ⟨wr.heap.size, 1, none⟩ = some (.string (sb p.dst)))
                  (first
                    | go_keep
                    | (rw [hgrow4.cell_far _ (by simp; omega) (by simp [Value.ownBlock]; omega)]; assumption)
                    | (rw [hgrow5.cell_far _ (by simp; omega) (by simp)]; assumption))
                  (first
                    | (refine step_append_at _ (by rfl) _ _ _ (by rfl) w.heap.size 9 i0 (.string ⟨#[]⟩) 1 16 Tryz.underlying71 hi0 hz0 hz1 hz2 rfl (by omega) (.slice (some ⟨wb.heap.size, 0, none⟩) 1 1) 1 [.string (sb p.dst)] (by rfl) ((own_one wb (.string (sb p.dst)) 9 hwb0).drew) _ (q'.length - a) _ (rfcells ((srt q').drop a)) (by rfl) HL1.out (HN1.out _ (((Below.refl wb.heap.size wb).alloc (Nat.le_refl _) _).drew)) (fun u hu => HOC.out _ u (List.mem_append_right _ hu)) (by unfold maxLen; omega) (by omega) (by simp; omega) ?_; intro v4 w4 hown4 hgrow4 hat4; obtain ⟨g4, cap4, rfl, hg4a, hg4b⟩ := hown4.form (by omega); have HBW4 := Lib.hid ((((Below.refl wb.heap.size wb).alloc (Nat.le_refl _) (.cells #[.string (sb p.dst)] 9)).drew).grown hgrow4 (by simp) (fun k hk => by simp [Value.ownBlock] at hk; omega)); have hsz4 := HBW4.out.size)
                    | (refine step_append_full _ (by rfl) _ _ _ (by rfl) w.heap.size 9 i0 (.string ⟨#[]⟩) 1 16 Tryz.underlying71 hi0 hz0 hz1 hz2 rfl ⟨go, oo, none⟩ a (rfcells ((srt q').take a)) (by rfl) HL2.out (HN2.out _ HBW4.out) ⟨g4, 0, none⟩ (1 + (q'.length - a)) cap4 ([.string (sb p.dst)] ++ rfcells ((srt q').drop a)) (by rfl) hown4.1 (hown4.cells (g := g4) rfl) (by omega) (by unfold maxLen; omega) (by omega) (by omega) ?_; intro v5 w5 hown5 hgrow5; have HBW5 := Lib.hid (HBW4.out.grown hgrow5 hsz4 (fun k hk => by cases hk)); have hsz5 := HBW5.out.size))
                have HOUT5 : Hid (RowS w5 v5 (srt (q' ++ [p.dst]))) := by
                  refine rowS_own hown5 (by omega) (by rw [srt_len, List.length_append, List.length_singleton]; omega) ?_
                  rw [HSN.out]
                clear hown4 hgrow4 hat4 hown5 hgrow5 hg4a hg4b HBW4 hsz4 hca s6
              all_goals
                have HT5 := Lib.hid (htodo'.out.below (show Below wr.heap.size wr w5 from by
                  have h0 : Below wr.heap.size wr wb := by rw [← HWB.out]; exact (Below.refl wr.heap.size wr).alloc (Nat.le_refl _) _
                  exact Below.then_ h0 HBW5.out))
                have HP5 := Lib.hid (HP1.out.below HBW5.out)
                have HB5 := Lib.hid (Below.then_ HB1.out HBW5.out)
                have HLT : Hid ((rfcells (q'.drop (i + 1))).length = nt' * 1) := by
                  unfold Hid rfcells; rw [List.length_map, HNTP.out]; omega
                have HNT5 : Hid (∀ wx, Below w5.heap.size w5 wx → ∀ k u, (rfcells (q'.drop (i + 1)))[k]? = some u → wx.cell? ((⟨gt, ot, none⟩ : Addr).add k) = some u) := by
                  intro wx hbw k u hu
                  obtain ⟨g9, o9, c9, hv9, _, _, hg9, hx9⟩ := HT5.out
                  simp only [Value.slice.injEq, Option.some.injEq, Addr.mk.injEq, and_true] at hv9
                  obtain ⟨⟨rfl, rfl⟩, _, rfl⟩ := hv9
                  rw [Addr.add_lit]
                  exact (hbw.cell (p := ⟨gt, ot + k, none⟩) hg9).trans (hx9 k u hu)
                have hwb5 : w.heap.size ≤ w5.heap.size := by omega
                have hne5 : wr.heap.size < w5.heap.size := by omega
                have hntl : nt' ≤ q'.length := by have := HNTQ.out; omega
                have y5 : w5.cell? ⟨wr.heap.size, 1, none⟩ = some (.string (sb p.dst)) := (HBW5.out.cell (p := ⟨wr.heap.size, 1, none⟩) hz1').trans y1
                clear y1 htodo' HXT HN1 HN2 HX1 HP1 HB1 HT1
                go_wp2_with fail
                go_region_held3 (fun wx => wx.cell? ⟨wr.heap.size, 1, none⟩ = some (.string (sb p.dst)))
                  (first
                    | go_keep
                    | (rw [hgrow6.cell_far _ (by first | (simp; done) | (simp; omega) | omega) (by simp; omega)]; assumption)
                    | (rw [hgrow7.cell_far _ (by simp; omega) (fun h => hne7 h.symm)]; assumption))
                  (first
                    | (refine step_append_at _ (by rfl) _ _ _ (by rfl) w5.heap.size 9 i0 (.string ⟨#[]⟩) 1 16 Tryz.underlying71 hi0 hz0 hz1 hz2 rfl (by omega) _ 0 [] (by rfl) (by first | exact (own_zero w5 9 (Nat.le_refl _)).drew | exact ((own_zero w5 9 (Nat.le_refl _)).alloc _).drew | exact (own_zero1 w5 _ 9 (Nat.le_refl _)).drew) ⟨gt, ot, none⟩ nt' ct' (rfcells (q'.drop (i + 1))) (by rfl) HLT.out (HNT5.out _ (by repeat (first | exact Below.refl _ _ | refine Below.drew ?_ | refine Below.alloc ?_ (by simp) _))) (fun u hu => HOC.out _ u (List.mem_append_right _ hu)) (by unfold maxLen; omega) (by omega) (by first | (simp; done) | (simp; omega) | omega) ?_; intro v6 w6 hown6 hgrow6 hat6; (first | (replace hgrow6 : World.grownBy _ w6 (some w5.heap.size) := hgrow6) | (replace hgrow6 : World.grownBy _ w6 (some (w5.heap.size + 1)) := hgrow6)); have HBW6 : Hid (Below w5.heap.size w5 w6) := Below.grown (by repeat (first | exact Below.refl _ _ | refine Below.drew ?_ | refine Below.alloc ?_ (by simp) _)) hgrow6 (by first | (simp; done) | (simp; omega) | omega) (fun k hk => by injection hk with hk; omega); have hsz6 := HBW6.out.size; (try (have hd6 : w6.cell? ⟨w5.heap.size + 1, 0, none⟩ = some (.string (sb p.dst)) := by rw [hgrow6.cell_far _ (by first | (simp; done) | (simp; omega)) (by simp)]; simp [go_sem])); (try (have hd6 : w6.cell? ⟨w5.heap.size, 0, none⟩ = some (.string (sb p.dst)) := by rw [hgrow6.cell_far _ (by first | (simp; done) | (simp; omega)) (by simp)]; simp [go_sem])); have hlt6 : ∀ j, v6.ownBlock = some j → w5.heap.size ≤ j := fun j hj => (hown6.lt j hj).1)
                    | (refine step_append_at _ (by rfl) _ _ _ (by rfl) w5.heap.size 9 i0 (.string ⟨#[]⟩) 1 16 Tryz.underlying71 hi0 hz0 hz1 hz2 rfl (by omega) v6 (0 + nt') ([] ++ rfcells (q'.drop (i + 1))) (by rfl) (by first | exact hown6.alloc _ | exact hown6) ⟨w6.heap.size, 0, none⟩ 1 1 [.string (sb p.dst)] (by rfl) rfl (World.news_of_block (cs := #[.string (sb p.dst)]) (t := 9) (fr := (0, 0)) (heap_alloc_new w6 _)) (fun u hu => HOC.out [] u (List.mem_append_left _ hu)) (by unfold maxLen; omega) (by omega) (by first | (simp; done) | (simp; omega) | omega) ?_; intro v7 w7 hown7 hgrow7 hat7; have HBW7 : Hid (Below w5.heap.size w5 w7) := Below.grown (by first | exact HBW6.out.alloc hsz6 _ | exact HBW6.out) hgrow7 (by first | (simp; done) | (simp; omega) | omega) (fun k hk => hlt6 k hk); have hne7 : v6.ownBlock ≠ some wr.heap.size := fun h => by have := hlt6 _ h; omega)
                    | (refine step_append_at _ (by rfl) _ _ _ (by rfl) w5.heap.size 9 i0 (.string ⟨#[]⟩) 1 16 Tryz.underlying71 hi0 hz0 hz1 hz2 rfl (by omega) v6 (0 + nt') ([] ++ rfcells (q'.drop (i + 1))) (by rfl) hown6 ⟨_, 0, none⟩ 1 1 [.string (sb p.dst)] (by rfl) rfl (one_at hd6) (fun u hu => HOC.out [] u (List.mem_append_left _ hu)) (by unfold maxLen; omega) (by omega) (by first | (simp; done) | (simp; omega) | omega) ?_; intro v7 w7 hown7 hgrow7 hat7; have HBW7 : Hid (Below w5.heap.size w5 w7) := Below.grown (by first | exact HBW6.out.alloc hsz6 _ | exact HBW6.out) hgrow7 (by first | (simp; done) | (simp; omega) | omega) (fun k hk => hlt6 k hk); have hne7 : v6.ownBlock ≠ some wr.heap.size := fun h => by have := hlt6 _ h; omega)
                    | fail)
                all_goals
                  have HTQ : Hid (RowS w7 v7 ((q' ++ [p.dst]).drop (i + 1))) := by
                    have h1 : (q' ++ [p.dst]).drop (i + 1) = q'.drop (i + 1) ++ [p.dst] := List.drop_append_of_le_length (by have := HIQ.out; omega)
                    refine rowS_own hown7 (by omega) (by rw [h1, List.length_append, HNTP.out, List.length_singleton]; omega) ?_
                    rw [h1, rfcells_snoc]
                    rfl
                  have HOQ := Lib.hid (HOUT5.out.below HBW7.out)
                  have HPQ := Lib.hid (HP5.out.below HBW7.out)
                  have HBQ := Lib.hid (Below.then_ HB5.out HBW7.out)
                  clear hown6 hgrow6 hat6 hown7 hgrow7 hat7 hne7 hlt6
                  go_wp2
                  go_roundw
                  case rel =>
                    refine ⟨q' ++ [p.dst], j + 1, by go_num, hlj, HE, ?_, HTQ, HPQ, HBQ.out⟩
                    obtain ⟨g9, o9, c9, hv9, h1, h2, h3, h4⟩ := HOQ.out
                    rw [hv9]
                    exact strR_mk h1 h2 h3 h4
                  case measure => simp [intOf]; omega
          · have HE : Hid (q' = addAll q (nxt L s)) := by
              unfold Hid
              rw [hqe.out, List.take_of_length_le (by rw [HNL.out, List.length_map, HM.out]; omega)]
            have HBX : Hid (bfs (nxt L) f q' (i + 1) = res) := by unfold Hid; rw [HE.out]; exact HB.out
            have HQ : Hid (q'.Nodup ∧ ∀ x ∈ q', x ∈ bl r :: allRefs L) := by
              refine ⟨?_, ?_⟩
              · rw [hqe.out]; exact addAll_nodup _ _ hq.out.1
              · intro x hx
                rw [hqe.out, addAll_mem] at hx
                rcases hx with hx | hx
                · exact hq.out.2 x hx
                · exact HNX.out x (List.mem_of_mem_take hx)
            have hmj : (m : Int) ≤ (j : Int) := by omega
            have HLV : Hid (lenV (.slice Ao' q'.length co') = q'.length ∧ lenV (.slice (some ⟨gt, ot, none⟩) nt' ct') = q'.length - (i + 1)) := ⟨rfl, HNTQ.out⟩
            have hiq2 : i + 1 ≤ q'.length := by have := HIQ.out; omega
            go_wp2
            go_roundw
            case rel => exact ⟨q', i + 1, f, HLV, by omega, hiq2, by omega, HQ, by first | exact hout' | (have h := hout'.out; rw [← srt_len q'] at h; exact h), htodo', HBX, hbx⟩
            case measure =>
              have h1 := HNTQ.out
              have h2 := HNT2.out
              have h3 := HIQ.out
              simp [lenV]
              omega
end Go.Proofs.YtgnnblkpjankgaaGreatDoor
