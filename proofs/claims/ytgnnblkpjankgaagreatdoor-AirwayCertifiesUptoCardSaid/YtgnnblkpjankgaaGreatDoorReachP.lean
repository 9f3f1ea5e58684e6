/-
  Contract: the references that can be reached: airway.reach.
-/
import Derived.Test.YtgnnblkpjankgaaGreatDoorReach
import Derived.Test.YtgnnblkpjankgaaGreatDoorShelf2
import Derived.Maps.Own
import Derived.Maps.OwnOps
import Derived.Maps.Views
import Derived.Maps.OwnSet
import Derived.StringKeys
import Derived.Sort.OwnSorted
namespace Go.Proofs.YtgnnblkpjankgaaGreatDoor
open Go.RowKit Go.Maps Go.ChangeMaps Go.WideMaps
set_option linter.unusedVariables false
set_option linter.unusedSimpArgs false

theorem plainElem_bool_inv {H : Type} {P : Program} {e : TypeId} (he : P.underlying e = some .bool) {v : Value} {z : DataW H × List MemPlace} (h : plainElem P e v = some z) : ∃ x, v = .bool x ∧ z = (.lit (.bool x), []) := by
  unfold plainElem at h
  rw [he] at h
  cases v <;> simp at h
  exact ⟨_, rfl, h.symm⟩
theorem lookup_bool {H : Type} {P : Program} {k e t : TypeId} {b n : Nat} {D : DataW H} {w : World} (h : w.ownsMap P k (plainElem P e) b n D) (K : Keyed P k) (ht : P.underlying t = some (.map k e)) (he : P.underlying e = some .bool) (hz : (zeroValue e).run P w = .ok (.bool false) w)
    {key : Value} {kl : Lit} (hkey : keyOf P k key = some kl) : ∃ c, (Instr.lookup t (.map (some b)) key false).run P w = .ok (.bool c) w ∧ D.atKey kl (.lit (.bool false)) = .lit (.bool c) := by
  obtain ⟨v, ps, hrun, hv⟩ := h.lookup K ht hz (plainElem_bool he false) hkey
  obtain ⟨c, rfl, hc⟩ := plainElem_bool_inv he hv
  simp only [Prod.mk.injEq] at hc
  exact ⟨c, hrun, hc.1⟩
/-- block b is a map that says of every reference whether it is in q -/
def SeenR (w : World) (b n : Nat) (q : List Rf) : Prop :=
  ∃ D : DataW Unit, w.ownsMap Tryz.prog 9 (plainElem Tryz.prog 4) b n D ∧ ∀ x : Rf, D.atKey (.string x) (.lit (.bool false)) = .lit (.bool (decide (x ∈ q)))
theorem zeroBool (w : World) : (zeroValue 4).run Tryz.prog w = .ok (.bool false) w := by kernel_rfl
theorem SeenR.made (w : World) : SeenR (w.alloc (.map #[] 0)) w.heap.size 0 [] :=
  ⟨.map [], World.ownsMap_made w _ _ _, fun x => by simp [DataW.atKey]⟩
theorem SeenR.lookup {w : World} {b n : Nat} {q : List Rf} (h : SeenR w b n q) {s : ByteArray} (hs : s.size ≤ maxLen) :
    (Instr.lookup 127 (.map (some b)) (.string s) false).run Tryz.prog w = .ok (.bool (decide (bl s ∈ q))) w := by
  obtain ⟨D, h1, h2⟩ := h
  obtain ⟨c, hrun, hat⟩ := lookup_bool h1 (string_keyed Tryz.underlying9) Tryz.underlying127 Tryz.underlying4 (zeroBool w) (keyOf_string_mk Tryz.underlying9 hs)
  rw [hrun]
  have h3 := h2 (bl s)
  have e : D.atKey (.string s.data.toList) (.lit (.bool false)) = .lit (.bool (decide (bl s ∈ q))) := h3
  rw [e] at hat
  simp only [DataW.lit.injEq, Lit.bool.injEq] at hat
  rw [hat]
theorem SeenR.update {w : World} {b n : Nat} {q : List Rf} (h : SeenR w b n q) {s : ByteArray} (hs : s.size ≤ maxLen) (hn : n < maxLen) :
    ∃ w', (Instr.mapUpdate 127 (.map (some b)) (.string s) (.bool true)).run Tryz.prog w = .ok () w' ∧ SeenR w' b (n + 1) (q ++ [bl s]) ∧ w.grownBy w' (some b) := by
  obtain ⟨D, h1, h2⟩ := h
  obtain ⟨w', hrun, h3, hg⟩ := h1.update (string_keyed Tryz.underlying9) Tryz.underlying127 hn (keyOf_string_mk Tryz.underlying9 hs) (plainElem_bool Tryz.underlying4 true)
  refine ⟨w', hrun, ⟨_, h3, fun x => ?_⟩, hg⟩
  by_cases hx : x = bl s
  · subst hx
    rw [show (Lit.string (bl s)) = Lit.string s.data.toList from rfl, atKey_put_same h1.isMap (by trivial)]
    simp
  · rw [atKey_put_other (by intro e; injection e with e; exact hx e), h2 x]
    simp [hx]
theorem SeenR.kept {w w' : World} {b n : Nat} {q : List Rf} {row : Option Nat} (h : SeenR w b n q) (hg : w.grownBy w' row) (hne : some b ≠ row) : SeenR w' b n q := by
  obtain ⟨D, h1, h2⟩ := h
  exact ⟨D, h1.kept hg hne, h2⟩
theorem SeenR.below {w w' : World} {b n : Nat} {q : List Rf} (h : SeenR w b n q) (hb : Below w.heap.size w w') : SeenR w' b n q := by
  obtain ⟨D, ⟨es, clock, hbk, r⟩, h2⟩ := h
  exact ⟨D, ⟨es, clock, (hb.block b (Array.getElem?_eq_some_iff.1 hbk).1).trans hbk, r⟩, h2⟩
theorem own_one (w : World) (a : Value) (t : TypeId) {base : Nat} (h : base ≤ w.heap.size) : (w.alloc (.cells #[a] t)).ownsRow base t 1 (.slice (some ⟨w.heap.size, 0, none⟩) 1 1) 1 [a] :=
  ⟨rfl, .inr ⟨w.heap.size, 1, #[a], rfl, h, heap_alloc_new w _, Nat.le_refl _, by unfold maxLen; omega, rfl, rfl⟩⟩
/-- every reference of points fits -/
def FitL (L : List Aw) : Prop := ∀ x ∈ allRefs L, x.length ≤ maxLen
def ReachPost (L : List Aw) (r : Rf) (w : World) (e : Ending) (w' : World) : Prop := ∃ v, e = .returned v ∧ StrR w' v (reachL L r) ∧ Below w.heap.size w w'
set_option maxRecDepth 100000 in
set_option maxHeartbeats 4000000 in
theorem reach_any (v : Value) (L : List Aw) (r : ByteArray) (w : World) (h : AwsR w v L) (hL : L.length ≤ 60) (hr : r.size ≤ maxLen) (hfit : FitL L) (hN : (allRefs L).length ≤ 100000) :
    Calls Tryz.prog 31 #[v, .string r] w (ReachPost L (bl r) w) := by
  obtain ⟨i0, hi0, hz0, hz1, hz2⟩ := info_parts infoString
  have hmm := @run_makeMap Tryz.prog
  obtain ⟨w1, hrun1, S1, hg1⟩ := (SeenR.made w).update (s := r) hr (by unfold maxLen; omega)
  have HRUN1 := Lib.hid hrun1
  have S1 := Lib.hid S1
  have hs1 := hg1.size
  have hw1 : w.heap.size + 1 ≤ w1.heap.size := by simp at hs1; omega
  have hB1 : Hid (Below w.heap.size w w1) := (((Below.refl w.heap.size w).alloc (Nat.le_refl _) _)).grown hg1 (by simp) (fun k hk => by injection hk with hk; omega)
  have H := Lib.hid h
  obtain ⟨res, hres⟩ : ∃ res, found L (bl r) = res := ⟨_, rfl⟩
  have HRES := Lib.hid hres
  have HPOST : Hid (∀ (v' : Value) (w' : World), StrR w' v' (srt res) → Below w.heap.size w w' → ReachPost L (bl r) w (.returned v') w') := fun v' w' h1 h2 => ⟨v', rfl, by unfold reachL; rw [hres]; exact h1, h2⟩
  clear hrun1 hs1 hg1 h hres
  go_enter Tryz.func31, Tryz.ntmps31
  go_wp2_with fail
  rw [HRUN1.out]
  clear hmm
  go_wp2_with fail
  go_loopw [6, 7] (fun qv iv wr => ∃ (q : List Rf) (i f : Nat), iv = .int .i64 i ∧ i ≤ q.length ∧ f + i = (allRefs L).length + 2 ∧ Hid (q.Nodup ∧ ∀ x ∈ q, x ∈ bl r :: allRefs L) ∧ wr.ownsRow (w.heap.size + 1) 9 1 qv q.length (rfcells q) ∧ Hid (SeenR wr w.heap.size q.length q) ∧ Hid (bfs (nxt L) f q i = res) ∧ Below w.heap.size w wr) (fun _ iv _ => (allRefs L).length + 2 - (intOf iv).toNat)
  case atStart =>
    refine ⟨[bl r], 0, _, rfl, Nat.zero_le _, rfl, ⟨by simp, by simp⟩, ?_, ?_, HRES.out, hB1.out.alloc (by omega) _⟩
    · have h1 := own_one w1 (.string r) 9 hw1
      exact h1
    · exact S1.out.below ((Below.refl _ _).alloc (Nat.le_refl _) _)
  case round =>
    obtain ⟨q, i, f, rfl, hi, hfi, hq, hown, hseen, hbfs, hbr⟩ := hrel
    have hqn := nodup_le q _ hq.out.1 hq.out.2
    rw [List.length_cons] at hqn
    have hwr : w.heap.size < wr.heap.size := by
      obtain ⟨D, ⟨es, clock, hbk, _⟩, _⟩ := hseen.out
      exact (Array.getElem?_eq_some_iff.1 hbk).1
    by_cases hlt : i < q.length
    · obtain ⟨f, rfl⟩ : ∃ f', f = f' + 1 := ⟨f - 1, by omega⟩
      have HB : Hid (bfs (nxt L) f (addAll q (nxt L q[i])) (i + 1) = res) := by
        have h := hbfs.out
        rw [bfs_step hlt] at h
        exact h
      obtain ⟨g, cap, rfl, hgb, hgs⟩ := hown.form (by omega)
      have hcell : wr.cell? ⟨g, i, none⟩ = some (.string (sb q[i])) := by
        have := hown.cellAt i (by omega)
        rw [this]; unfold rfcells; rw [List.getElem?_map, List.getElem?_eq_getElem hlt]; rfl
      have hNx : ∀ x ∈ nxt L q[i], x ∈ bl r :: allRefs L := fun x hx => List.mem_cons_of_mem _ (nxt_mem L q[i] x hx)
      have HNX := Lib.hid hNx
      obtain ⟨s, hs⟩ : ∃ s, q[i] = s := ⟨_, rfl⟩
      rw [hs] at HB hcell HNX
      have HQN := Lib.hid hqn
      clear hbfs hs hqn hNx
      have hii : (i : Int) < (q.length : Int) := by omega
      have HOWN := Lib.hid hown
      clear hown
      go_wp2_with fail
      refine (hops_index_any v L (sb s) _ (H.out.below hbr) hL).mono ?_
      rintro e w2 ⟨vh, rfl, hvh, hb2⟩
      rw [bl_sb] at hvh
      have HO2 := Lib.hid (own_below HOWN.out hb2)
      have HS2 := Lib.hid (hseen.out.below hb2)
      have hbr2 := hbr.trans (hb2.mono hbr.size)
      have hwr2 : w.heap.size < w2.heap.size := Nat.lt_of_lt_of_le hwr hb2.size
      have hhl := hopsL_len L s
      have HNL : Hid (nxt L s = (hopsL L s).map (·.dst)) := rfl
      have HDST := Lib.hid (hops_dst L s)
      obtain ⟨hl, hhe⟩ : ∃ hl, hopsL L s = hl := ⟨_, rfl⟩
      rw [hhe] at hvh hhl HNL HDST
      clear hhe hb2 hcell HOWN hseen
      obtain ⟨m, hm⟩ : ∃ m, hl.length = m := ⟨_, rfl⟩
      have HM := Lib.hid hm
      obtain ⟨Ah, ch, rfl, hc1, hc2⟩ := hvh.form
      have HV := Lib.hid hvh
      rw [hm] at hhl HV hc1 ⊢
      clear hm hvh
      unfold maxLen at hc2
      go_wp2_with fail
      go_loopw [6, 28] (fun qv jv wx => ∃ (q' : List Rf) (j : Nat), jv = .int .i64 j ∧ j ≤ m ∧ Hid (q' = addAll q ((nxt L s).take j)) ∧ wx.ownsRow (w.heap.size + 1) 9 1 qv q'.length (rfcells q') ∧ Hid (SeenR wx w.heap.size q'.length q') ∧ Hid (HpsR wx (.slice Ah m ch) hl) ∧ Below w.heap.size w wx) (fun _ jv _ => m - (intOf jv).toNat)
      case atStart => exact ⟨q, 0, rfl, Nat.zero_le _, rfl, HO2.out, HS2, HV, hbr2⟩
      case round =>
        obtain ⟨q', j, rfl, hj, hqe, hown, hseen, hhp, hbx⟩ := hrel
        have hq1 : q'.Nodup := by rw [hqe.out]; exact addAll_nodup _ _ hq.out.1
        have hq2 : ∀ x ∈ q', x ∈ bl r :: allRefs L := by
          intro x hx
          rw [hqe.out, addAll_mem] at hx
          rcases hx with hx | hx
          · exact hq.out.2 x hx
          · exact HNX.out x (List.mem_of_mem_take hx)
        have hqn := nodup_le q' _ hq1 hq2
        rw [List.length_cons] at hqn
        clear hq1 hq2
        have hwx : w.heap.size < wr.heap.size := by
          obtain ⟨D, ⟨es, clock, hbk, _⟩, _⟩ := hseen.out
          exact (Array.getElem?_eq_some_iff.1 hbk).1
        by_cases hlj : j < m
        · have hjl : j < hl.length := by rw [HM.out]; exact hlj
          obtain ⟨gh, oh, ch', hA, hgh, x0, x1, x2, x3⟩ := hhp.out.at_ hjl
          rw [HM.out] at hA
          simp only [Value.slice.injEq, true_and] at hA
          obtain ⟨rfl, rfl⟩ := hA
          have HD := HDST.out _ (List.getElem_mem hjl)
          have hTK : (nxt L s).take (j + 1) = (nxt L s).take j ++ [hl[j].dst] := by
            rw [HNL.out, List.take_succ_eq_append_getElem (by rw [List.length_map]; exact hjl), List.getElem_map]
          have hAD : Hid (addAll q ((nxt L s).take (j + 1)) = if hl[j].dst ∈ q' then q' else q' ++ [hl[j].dst]) := by
            unfold Hid; rw [hTK, addAll_snoc, ← hqe.out]
          obtain ⟨p, hp⟩ : ∃ p, hl[j] = p := ⟨_, rfl⟩
          rw [hp] at x0 x1 x2 x3 hAD HD
          have hfd := hfit _ HD
          have HJL := Lib.hid hjl
          clear hp hTK HD hjl
          have hji : (j : Int) < (m : Int) := by omega
          have HB1 := Lib.hid (hbx.alloc hbx.size (.cells #[.string (sb p.aw), .string (sb p.dst), .int .i64 p.lo, .int .i64 p.hi] 48))
          have HS1 := Lib.hid (hseen.out.below ((Below.refl wr.heap.size wr).alloc (Nat.le_refl _) (.cells #[.string (sb p.aw), .string (sb p.dst), .int .i64 p.lo, .int .i64 p.hi] 48)))
          have HP1 := Lib.hid (hhp.out.below ((Below.refl wr.heap.size wr).alloc (Nat.le_refl _) (.cells #[.string (sb p.aw), .string (sb p.dst), .int .i64 p.lo, .int .i64 p.hi] 48)))
          have HO1 := Lib.hid (hown.alloc (.cells #[.string (sb p.aw), .string (sb p.dst), .int .i64 p.lo, .int .i64 p.hi] 48))
          have hlook := HS1.out.lookup (s := sb p.dst) hfd
          rw [bl_sb] at hlook
          clear hhp hseen hown
          by_cases hmem : p.dst ∈ q'
          · rw [decide_eq_true hmem] at hlook
            have HL := Lib.hid hlook
            have HE : Hid (q' = addAll q ((nxt L s).take (j + 1))) := by unfold Hid; rw [hAD.out, if_pos hmem]
            clear hlook hmem
            have hlook := HL.out
            go_wp2
            go_roundw
            case rel => exact ⟨q', j + 1, by go_num, hlj, HE, HO1.out, HS1, HP1, HB1.out⟩
            case measure => simp [intOf]; omega
          · rw [decide_eq_false hmem] at hlook
            have HL := Lib.hid hlook
            have HE : Hid (q' ++ [p.dst] = addAll q ((nxt L s).take (j + 1))) := by unfold Hid; rw [hAD.out, if_neg hmem]
            clear hlook hmem
            have hlook := HL.out
            obtain ⟨w3, hrun3, S3, hg3⟩ := HS1.out.update (s := sb p.dst) hfd (by unfold maxLen; omega)
            have HRUN3 := Lib.hid hrun3
            have HS3 : Hid (SeenR w3 w.heap.size (q' ++ [p.dst]).length (q' ++ [p.dst])) := by
              unfold Hid; rw [List.length_append]; exact S3
            have hne : u6.ownBlock ≠ some w.heap.size := fun h => by have := (HO1.out.lt _ h).1; omega
            have HO3 := Lib.hid (HO1.out.kept hg3 (.inr hne))
            have HP3 := Lib.hid (HP1.out.grown hg3 (fun k cur z hk hh => by
              injection hk with hk
              subst hk
              obtain ⟨D, ⟨es, clock, hbk, _⟩, _⟩ := HS1.out
              rw [hbk] at hh
              cases hh))
            have HB3 := Lib.hid (HB1.out.grown hg3 (by simp; omega) (fun k hk => by injection hk with hk; omega))
            have hs3 := hg3.size
            have hsz : wr.heap.size + 1 ≤ w3.heap.size := by simp at hs3; omega
            have y1 : w3.cell? ⟨wr.heap.size, 1, none⟩ = some (.string (sb p.dst)) := by
              rw [hg3.cell_far _ (by simp) (by simp; omega)]
              simp [go_sem]
            clear hrun3 S3 hs3 hg3
            go_wp2_with fail
            rw [HRUN3.out]
            have hown3 := HO3.out
            go_wp2_with (at_builtin; refine wpList_append_own _ rfl (.tmp 40) (.tmp 43) 71 rfl (w.heap.size + 1) 9 i0 (.string ⟨#[]⟩) 1 16 Tryz.underlying71 hi0 hz0 hz1 hz2 rfl (by decide) _ _ _ rfl (hown3.alloc _) ⟨w3.heap.size, 0, none⟩ 1 1 [.string (sb p.dst)] rfl rfl (cell_one_new _ _ _) (by intro u hu; simp at hu; rcases hu with rfl; rfl) (by unfold maxLen; omega) (by omega) (by simp; omega) ?_)
            intro v4 w4 hown4 hgrow _
            have hlt4 : ∀ j, u6.ownBlock = some j → w.heap.size + 1 ≤ j := fun j hj => (hown3.lt j hj).1
            have HB4 := Lib.hid ((HB3.out.alloc (by omega) (.cells #[.string (sb p.dst)] 9)).grown hgrow (by simp; omega) (fun k hk => by have := hlt4 k hk; omega))
            have HO4 : Hid (w4.ownsRow (w.heap.size + 1) 9 1 v4 (q' ++ [p.dst]).length (rfcells (q' ++ [p.dst]))) := by
              unfold Hid
              rw [rfcells_snoc, List.length_append]
              exact hown4
            have HS4 : Hid (SeenR w4 w.heap.size (q' ++ [p.dst]).length (q' ++ [p.dst])) :=
              (HS3.out.below ((Below.refl w3.heap.size w3).alloc (Nat.le_refl _) (.cells #[.string (sb p.dst)] 9))).kept hgrow (fun h => hne h.symm)
            have HP4 : Hid (HpsR w4 (.slice (some ⟨gh, oh, none⟩) m ch) hl) :=
              (HP3.out.below ((Below.refl w3.heap.size w3).alloc (Nat.le_refl _) (.cells #[.string (sb p.dst)] 9))).grown hgrow (fun k cur z hk hh => by
                obtain ⟨_, ⟨hv, _⟩ | ⟨g4, cap4, cur4, hv, _, hh4, _⟩⟩ := hown3.alloc (.cells #[.string (sb p.dst)] 9)
                · rw [hv] at hk; cases hk
                · rw [hv] at hk
                  have e4 : g4 = k := by simpa [Value.ownBlock] using hk
                  subst e4
                  rw [hh4] at hh
                  injection hh with hh
                  injection hh with _ ht
                  cases ht)
            clear hown3 hown4 hgrow hlt4 y1
            go_wp2
            go_roundw
            case rel => exact ⟨_, j + 1, by go_num, hlj, HE, HO4.out, HS4, HP4, HB4.out⟩
            case measure => simp [intOf]; omega
        · have HE : Hid (q' = addAll q (nxt L s)) := by
            unfold Hid
            rw [hqe.out, List.take_of_length_le (by rw [HNL.out, List.length_map, HM.out]; omega)]
          have HBX : Hid (bfs (nxt L) f q' (i + 1) = res) := by unfold Hid; rw [HE.out]; exact HB.out
          have HQ : Hid (q'.Nodup ∧ ∀ x ∈ q', x ∈ bl r :: allRefs L) := by
            refine ⟨?_, ?_⟩
            · rw [hqe.out]; exact addAll_nodup _ _ hq.out.1
            · intro x hx
              rw [hqe.out, addAll_mem] at hx
              rcases hx with hx | hx
              · exact hq.out.2 x hx
              · exact HNX.out x (List.mem_of_mem_take hx)
          have hil : i + 1 ≤ q'.length := by
            obtain ⟨t, ht⟩ := addAll_ext (nxt L s) q
            rw [HE.out, ht, List.length_append]; omega
          have HOW := Lib.hid hown
          clear hown
          go_wp2
          go_roundw
          case rel => exact ⟨q', i + 1, f, by go_num, hil, by omega, HQ, HOW.out, hseen, HBX, hbx⟩
          case measure => simp [intOf]; omega
    · have HE : Hid (q = res) := by unfold Hid; rw [← hbfs.out]; exact (bfs_end (by omega)).symm
      obtain ⟨hle, ⟨rfl, h0⟩ | ⟨g, cap, cur, rfl, hgb, hgh, hn1, hn2, hn3, hn4⟩⟩ := hown
      · have HQ0 : Hid (q = []) := List.eq_nil_of_length_eq_zero h0
        have hii : (0 : Int) ≤ (i : Int) := by omega
        have hi0 : i = 0 := by omega
        subst hi0
        have HL0 := Lib.hid h0
        clear h0 hle
        go_wp2_with fail
        refine (Tryz.slices_Sort_string_none none 0 _).mono ?_
        rintro e w2 ⟨rfl, rfl⟩
        go_wp2
        go_ret
        exact HPOST.out _ _ (by rw [← HE.out, HQ0.out, show srt [] = [] from List.mergeSort_nil]; exact ⟨rfl, none, 0, rfl, Nat.le_refl _, by unfold maxLen; omega, fun h => absurd h (by decide)⟩) hbr
      · have hii : (q.length : Int) ≤ (i : Int) := by omega
        have hgs : g < wr.heap.size := (Array.getElem?_eq_some_iff.1 hgh).1
        have hHold : Go.Sort.Holds encStr wr g 0 q.toArray := holds_of_block hgh (by rw [Nat.mul_one] at hn4; exact hn4)
        have HHOLD := Lib.hid hHold
        have HGH := Lib.hid hgh
        have HN3 := Lib.hid hn3
        clear hHold hgh hn3 hn4 hle
        go_wp2_with fail
        refine (Tryz.slices_Sort_string g 0 cap q _ HHOLD.out hgs (by omega)).mono ?_
        rintro e w2 ⟨rfl, n2, os, rfl⟩
        have hlen : (q.mergeSort fun x y => decide (x ≤ y)).length = q.length := List.length_mergeSort _
        have HO2 := Lib.hid (ownsRow_sorted (n := n2) (os := os) hlen hgb HGH.out hn1 hn2 HN3.out)
        have HB2 := Lib.hid (hbr.grown (grownBy_sorted (w := wr) (g := g) (n := n2) (os := os) (q.mergeSort fun x y => decide (x ≤ y)).toArray) (by omega) (fun k hk => by injection hk with hk; omega))
        have HSR : Hid (srt res = q.mergeSort fun x y => decide (x ≤ y)) := by unfold Hid; rw [← HE.out]; rfl
        have HLEN := Lib.hid hlen
        clear hlen
        go_wp2
        go_ret
        exact HPOST.out _ _ (by
          have h := Rd.of_own HO2.out
          rw [HSR.out]
          unfold StrR
          rw [HLEN.out]
          exact h) HB2.out
end Go.Proofs.YtgnnblkpjankgaaGreatDoor
