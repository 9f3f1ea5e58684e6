/-
  Contracts: the hops that begin at a fix, on both sides.
-/
import Derived.Test.YtgnnblkpjankgaaGreatDoorAwL
import Derived.IntWalk
namespace Go.Proofs.YtgnnblkpjankgaaGreatDoor
open Go.RowKit
set_option linter.unusedVariables false
set_option linter.unusedSimpArgs false

structure Hp where
  aw : List UInt8
  dst : List UInt8
  lo : Int
  hi : Int
def hpc (h : Hp) : List Value := [.string (sb h.aw), .string (sb h.dst), .int .i64 h.lo, .int .i64 h.hi]
def hpcells (l : List Hp) : List Value := l.flatMap hpc
theorem hpcells_snoc (l : List Hp) (h : Hp) : hpcells (l ++ [h]) = hpcells l ++ hpc h := by
  unfold hpcells; rw [List.flatMap_append]; simp
theorem hpcells_len (l : List Hp) : (hpcells l).length = l.length * 4 := by
  induction l with
  | nil => rfl
  | cons p l ih =>
    show (hpc p ++ hpcells l).length = _
    rw [List.length_append, ih, List.length_cons]
    show 4 + _ = _
    omega
theorem infoHp : (Tryz.prog.info? 48).map (fun i => (i.zero, i.size, i.bytes)) = some (some (.agg #[.string ⟨#[]⟩, .string ⟨#[]⟩, .int .i64 0, .int .i64 0]), 4, 48) := by kernel_rfl
def hopF (a : Aw) (k : Nat) : List Hp := if k + 1 < a.pts.length ∧ (a.pts.getD k noPt).dir ≠ 2 then [⟨a.name, (a.pts.getD (k + 1) noPt).ref, (a.pts.getD k noPt).lo, (a.pts.getD k noPt).hi⟩] else []
def hopB (a : Aw) (k : Nat) : List Hp := if 0 < k ∧ (a.pts.getD (k - 1) noPt).dir ≠ 1 then [⟨a.name, (a.pts.getD (k - 1) noPt).ref, (a.pts.getD (k - 1) noPt).lo, (a.pts.getD (k - 1) noPt).hi⟩] else []
def hopsOf (a : Aw) (r : List UInt8) : List Hp := if idxOf a.pts r < 0 then [] else hopF a (idxOf a.pts r).toNat ++ hopB a (idxOf a.pts r).toNat
def hopsL (L : List Aw) (r : List UInt8) : List Hp := L.flatMap fun a => hopsOf a r
theorem hopsL_step {L : List Aw} {k : Nat} (r : List UInt8) (h : k < L.length) : hopsL (L.take (k + 1)) r = hopsL (L.take k) r ++ hopsOf L[k] r := by
  unfold hopsL; rw [List.take_succ_eq_append_getElem h, List.flatMap_append]; simp
theorem hopF_len (a : Aw) (k : Nat) : (hopF a k).length ≤ 1 := by unfold hopF; split <;> simp
theorem hopB_len (a : Aw) (k : Nat) : (hopB a k).length ≤ 1 := by unfold hopB; split <;> simp
theorem hopsL_len (L : List Aw) (r : List UInt8) : (hopsL L r).length ≤ 2 * L.length := by
  induction L with
  | nil => simp [hopsL]
  | cons a L ih =>
    have e : hopsL (a :: L) r = hopsOf a r ++ hopsL L r := by unfold hopsL; rw [List.flatMap_cons]
    have h1 : (hopsOf a r).length ≤ 2 := by
      unfold hopsOf
      split
      · simp
      · rw [List.length_append]; have := hopF_len a (idxOf a.pts r).toNat; have := hopB_len a (idxOf a.pts r).toNat; omega
    rw [e, List.length_append, List.length_cons]; omega
/-- the ways of the hop ahead -/
theorem hopF_ways {a : Aw} {k : Nat} (hk : k < a.pts.length) :
    (∃ h1 : k + 1 < a.pts.length, ¬ a.pts[k].dir = 2 ∧ hopF a k = [⟨a.name, a.pts[k + 1].ref, a.pts[k].lo, a.pts[k].hi⟩]) ∨ (∃ h1 : k + 1 < a.pts.length, a.pts[k].dir = 2 ∧ hopF a k = []) ∨ (a.pts.length ≤ k + 1 ∧ hopF a k = []) := by
  unfold hopF
  by_cases h1 : k + 1 < a.pts.length
  · rw [List.getD_eq_getElem?_getD, List.getD_eq_getElem?_getD, List.getElem?_eq_getElem hk, List.getElem?_eq_getElem h1]
    by_cases h2 : a.pts[k].dir = 2
    · exact .inr (.inl ⟨h1, h2, if_neg (fun h => h.2 h2)⟩)
    · exact .inl ⟨h1, h2, if_pos ⟨h1, h2⟩⟩
  · exact .inr (.inr ⟨by omega, if_neg (fun h => h1 h.1)⟩)
theorem hopB_ways {a : Aw} {k : Nat} (hk : k < a.pts.length) :
    (∃ h1 : k - 1 < a.pts.length, 0 < k ∧ ¬ a.pts[k - 1].dir = 1 ∧ hopB a k = [⟨a.name, a.pts[k - 1].ref, a.pts[k - 1].lo, a.pts[k - 1].hi⟩]) ∨ (∃ h1 : k - 1 < a.pts.length, 0 < k ∧ a.pts[k - 1].dir = 1 ∧ hopB a k = []) ∨ (k = 0 ∧ hopB a k = []) := by
  unfold hopB
  have h1 : k - 1 < a.pts.length := by omega
  by_cases h0 : 0 < k
  · rw [List.getD_eq_getElem?_getD, List.getElem?_eq_getElem h1]
    by_cases h2 : a.pts[k - 1].dir = 1
    · exact .inr (.inl ⟨h1, h0, h2, if_neg (fun h => h.2 h2)⟩)
    · exact .inl ⟨h1, h0, h2, if_pos ⟨h0, h2⟩⟩
  · exact .inr (.inr ⟨by omega, if_neg (fun h => h0 h.1)⟩)
/-- hops in memory, in a row of hops -/
def HpsR (w : World) (v : Value) (l : List Hp) : Prop :=
  Rd w 4 v l.length (hpcells l) ∧ (l.length = 0 ∨ ∃ g o c cur z, v = .slice (some ⟨g, o, none⟩) l.length c ∧ w.heap[g]? = some (.cells cur 48 z))
theorem hpsR_own {w : World} {base : Nat} {v : Value} {l : List Hp} (h : w.ownsRow base 48 4 v l.length (hpcells l)) : HpsR w v l := by
  refine ⟨Rd.of_own h, ?_⟩
  obtain ⟨hl, ⟨rfl, h0⟩ | ⟨g, cap, cur, rfl, hb, hh, _⟩⟩ := h
  · exact .inl h0
  · exact .inr ⟨g, 0, cap, cur, _, rfl, hh⟩
def HopPost (l : List Hp) (w : World) (e : Ending) (w' : World) : Prop := ∃ v, e = .returned v ∧ HpsR w' v l ∧ Below w.heap.size w w'
set_option maxRecDepth 100000 in
set_option maxHeartbeats 8000000 in
theorem hops_index_any (v : Value) (L : List Aw) (r : ByteArray) (w : World) (h : AwsR w v L) (hL : L.length ≤ 60) :
    Calls Tryz.prog 21 #[v, .string r] w (HopPost (hopsL L (bl r)) w) := by
  obtain ⟨ip, hip, hz0, hz1, hz2⟩ := info_parts infoHp
  obtain ⟨A, c, rfl, hc, hm⟩ := h.form
  unfold maxLen at hm
  have H := Lib.hid h
  clear h
  obtain ⟨n, hnn⟩ : ∃ n, L.length = n := ⟨_, rfl⟩
  rw [hnn] at hc H hL
  rw [hnn]
  have HN := Lib.hid hnn
  clear hnn
  go_enter Tryz.func21, Tryz.ntmps21
  go_wp2
  go_loopw [5, 11] (fun ov iv wr => ∃ k : Nat, k ≤ n ∧ iv = .int .i64 k ∧ wr.ownsRow w.heap.size 48 4 ov (hopsL (L.take k) (bl r)).length (hpcells (hopsL (L.take k) (bl r))) ∧ Below w.heap.size w wr) (fun _ iv _ => n - (intOf iv).toNat)
  case atStart => exact ⟨0, Nat.zero_le _, rfl, World.ownsRow_nil _ _ _ _, Below.refl _ _⟩
  case round =>
    obtain ⟨k, hk, rfl, hown, hbr⟩ := hrel
    by_cases hlt : k < n
    · have hkl : k < L.length := by rw [HN.out]; exact hlt
      have HS := Lib.hid (hopsL_step (bl r) hkl)
      have hlen := hopsL_len (L.take k) (bl r)
      rw [List.length_take] at hlen
      obtain ⟨done, hd⟩ : ∃ d, hopsL (L.take k) (bl r) = d := ⟨_, rfl⟩
      rw [hd] at HS hown hlen
      obtain ⟨g, o, c', pv, hA, hg, x0, x1, x2, x3⟩ := H.out.at_ hkl
      rw [HN.out] at hA
      simp only [Value.slice.injEq, true_and] at hA
      obtain ⟨rfl, rfl⟩ := hA
      have k0 := (hbr.cell (p := ⟨g, o + k * 2, none⟩) hg).trans x0
      have k1 := (hbr.cell (p := ⟨g, o + k * 2 + 1, none⟩) hg).trans x1
      have P0 := Lib.hid x2
      obtain ⟨a, ha⟩ : ∃ a, L[k] = a := ⟨_, rfl⟩
      rw [ha] at k0 HS P0 x3
      have hl60 : done.length ≤ 120 := by omega
      clear x0 x1 x2 ha hkl hg hd hlen
      obtain ⟨Ap, cp, rfl, hcp, hcpm⟩ := P0.out.form
      unfold maxLen at hcpm
      have hlt1 : ∀ j, u5.ownBlock = some j → w.heap.size ≤ j ∧ j < wr.heap.size := hown.lt
      have neb : u5.ownBlock ≠ some wr.heap.size := fun h => by have := hlt1 _ h; omega
      have HLT := Lib.hid hlt1
      clear hlt1
      have hba := Lib.hid (hbr.alloc hbr.size (.cells #[.string (sb a.name), .slice Ap a.pts.length cp] 63))
      go_wp2_with fail
      refine (index_any (sb a.name) r _ a.pts _ (P0.out.below hba.out)).mono ?_
      rintro e1 w2 ⟨rfl, hb2⟩
      have HB2 := Lib.hid (hba.out.trans (hb2.mono (by simp; have := hbr.size; omega)))
      have b0 : w2.cell? ⟨wr.heap.size, 0, none⟩ = some (.string (sb a.name)) := (hb2.cell (p := ⟨wr.heap.size, 0, none⟩) (by simp)).trans (by simp [go_sem])
      have b1 : w2.cell? ⟨wr.heap.size, 1, none⟩ = some (.slice Ap a.pts.length cp) := (hb2.cell (p := ⟨wr.heap.size, 1, none⟩) (by simp)).trans (by simp [go_sem])
      have bs : wr.heap.size < w2.heap.size := Nat.lt_of_lt_of_le (by simp) hb2.size
      have hown2 := own_below (hown.alloc (.cells #[.string (sb a.name), .slice Ap a.pts.length cp] 63)) hb2
      clear hown hb2 hba k0 k1
      have hix := idxOf_bd a.pts (bl r)
      have HO : Hid (hopsOf a (bl r) = if idxOf a.pts (bl r) < 0 then [] else hopF a (idxOf a.pts (bl r)).toNat ++ hopB a (idxOf a.pts (bl r)).toNat) := rfl
      obtain ⟨ix, hx⟩ : ∃ ix, idxOf a.pts (bl r) = ix := ⟨_, rfl⟩
      rw [hx] at hix HO
      rw [hx]
      clear hx
      rcases hix with hix | ⟨i, rfl, hi⟩
      · have HE : Hid (hopsL (L.take (k + 1)) (bl r) = done) := by unfold Hid; rw [HS.out, HO.out, if_pos hix, List.append_nil]
        rw [← HE.out] at hown2
        have HOWN := Lib.hid hown2
        clear hown2
        go_wp2
        go_roundw
        case rel => exact ⟨k + 1, hlt, by go_num, HOWN.out, HB2.out⟩
        case measure => simp [intOf]; omega
      · have hF := hopF_ways hi
        have hB := hopB_ways hi
        obtain ⟨gp, op, cz, hAp, hgp, z0, z1, z2, z3⟩ := P0.out.at_ hi
        simp only [Value.slice.injEq, true_and] at hAp
        obtain ⟨rfl, rfl⟩ := hAp
        obtain ⟨F, hFe⟩ : ∃ F, hopF a i = F := ⟨_, rfl⟩
        obtain ⟨Bk, hBe⟩ : ∃ Bk, hopB a i = Bk := ⟨_, rfl⟩
        have HE : Hid (hopsL (L.take (k + 1)) (bl r) = done ++ (F ++ Bk)) := by
          unfold Hid; rw [HS.out, HO.out, if_neg (by omega), Int.toNat_natCast, hFe, hBe]
        rw [hFe] at hF
        rw [hBe] at hB
        rw [← List.append_assoc] at HE
        obtain ⟨n2, hn2⟩ : ∃ n2, a.pts.length = n2 := ⟨_, rfl⟩
        have hi2 : i < n2 := by omega
        rw [hn2] at P0 hcp b1
        have HN2 := Lib.hid hn2
        have y1 := (HB2.out.cell (p := ⟨gp, op + i * 4 + 1, none⟩) hgp).trans z1
        have y2 := (HB2.out.cell (p := ⟨gp, op + i * 4 + 2, none⟩) hgp).trans z2
        have y3 := (HB2.out.cell (p := ⟨gp, op + i * 4 + 3, none⟩) hgp).trans z3
        have nep : u5.ownBlock ≠ some gp := fun h => by have := (HLT.out _ h).1; omega
        have HOWN2 := Lib.hid hown2
        have HLT2 : Hid (∀ j, u5.ownBlock = some j → w.heap.size ≤ j ∧ j < w2.heap.size) := fun j hj => ⟨(HLT.out j hj).1, by have := (HLT.out j hj).2; omega⟩
        have hd121 : done.length ≤ 121 := by omega
        have g0 : (0 : Int) ≤ (i : Int) := by omega
        have g1 : (i : Int) < (n2 : Int) := by omega
        have hwr : w.heap.size ≤ wr.heap.size := hbr.size
        rcases hF with ⟨h1, hdF, rfl⟩ | ⟨h1, hdF, rfl⟩ | ⟨h1, rfl⟩
        · obtain ⟨gq, oq, cq, hAq, _, v0, v1, v2, v3⟩ := P0.out.at_ h1
          rw [hn2] at hAq
          simp only [Value.slice.injEq, Option.some.injEq, Addr.mk.injEq, and_true, true_and] at hAq
          obtain ⟨⟨rfl, rfl⟩, rfl⟩ := hAq
          have y4 := (HB2.out.cell (p := ⟨gp, op + (i + 1) * 4, none⟩) hgp).trans v0
          have h1' : i + 1 < n2 := by omega
          obtain ⟨pf, hpf⟩ : ∃ pf, a.pts[i] = pf := ⟨_, rfl⟩
          obtain ⟨qf, hqf⟩ : ∃ qf, a.pts[i + 1] = qf := ⟨_, rfl⟩
          rw [hpf] at y1 y2 y3 hdF HE
          rw [hqf] at y4 HE
          clear v0 v1 v2 v3 z0 z1 z2 z3 hpf hqf h1 hFe hBe hn2
          have f1 : (i : Int) + 1 < (n2 : Int) := by omega
          have f2 : (i : Int) < (n2 : Int) - 1 := by omega
          have e3 : ((pf.dir : Int) != 2) = true := bne_iff_ne.2 (by omega)
          have e4 : ((pf.dir : Int) == 2) = false := beq_eq_false_iff_ne.2 (by omega)
          clear hdF
          go_wp2
          have f3 : (0 : Int) ≤ (i : Int) + 1 := by omega
          have f4 : ((i : Int) + 1).toNat = i + 1 := by omega
          have f5 : IntKind.i64.wrap ((i : Int) + 1) = (i : Int) + 1 := IntWalk.i64_in _ (by omega)
          go_region_held3 (fun wx => wx.cell? ⟨wr.heap.size, 0, none⟩ = some (.string (sb a.name)) ∧ wx.cell? ⟨wr.heap.size, 1, none⟩ = some (.slice (some ⟨gp, op, none⟩) n2 cp) ∧ wx.cell? ⟨gp, op + (i + 1) * 4, none⟩ = some (.string (sb qf.ref)) ∧ wx.cell? ⟨gp, op + i * 4 + 1, none⟩ = some (.int .i64 pf.lo) ∧ wx.cell? ⟨gp, op + i * 4 + 2, none⟩ = some (.int .i64 pf.hi))
            (first
              | go_keep
              | (go_split_ands
                 refine ⟨?_, ?_, ?_, ?_, ?_⟩
                 · (rw [hgrow.cell_far _ (by simp; omega) (Ne.symm neb)]; assumption)
                 · (rw [hgrow.cell_far _ (by simp; omega) (Ne.symm neb)]; assumption)
                 · (rw [hgrow.cell_far _ (by simp; omega) (Ne.symm nep)]; assumption)
                 · (rw [hgrow.cell_far _ (by simp; omega) (Ne.symm nep)]; assumption)
                 · (rw [hgrow.cell_far _ (by simp; omega) (Ne.symm nep)]; assumption)))
            ((refine step_append_lies _ (by rfl) _ _ _ (by rfl) w.heap.size 48 ip (.agg #[.string ⟨#[]⟩, .string ⟨#[]⟩, .int .i64 0, .int .i64 0]) 4 48 Tryz.underlying24 hip hz0 hz1 hz2 rfl (by omega) u5 done.length (hpcells done) (by rfl) ((hown2.alloc _).drew) ⟨w2.heap.size, 0, none⟩ 1 1 [.string (sb a.name), .string (sb qf.ref), .int .i64 pf.lo, .int .i64 pf.hi] (by rfl) (by rfl) (World.news_of_block (cs := #[.string (sb a.name), .string (sb qf.ref), .int .i64 pf.lo, .int .i64 pf.hi]) (t := 48) (fr := (0, 0)) (heap_alloc_new w2 _)) (by simp [Value.oneCell']) (by omega) (by unfold maxLen; omega) (by omega) (by simp; omega) (w2.heap.size + 1) (by simp) ?_; intro gg cap w3 hown3 hgrow hat hlt3))
          have HB3 := Lib.hid ((((HB2.out.alloc (by omega) _).drew).grown hgrow (by simp; omega) (fun j hj => (HLT.out j hj).1)) : Below w.heap.size w w3)
          obtain ⟨c0, c1, c2, c3, c4⟩ := ‹w3.cell? _ = _ ∧ _ ∧ _ ∧ _ ∧ _›
          have hs3 := hgrow.size
          have bs3 : w2.heap.size + 1 ≤ w3.heap.size := by simp at hs3; omega
          have hgg : w.heap.size ≤ gg ∧ gg ≠ wr.heap.size := by
            rcases hat with h | h
            · have h2 := HLT.out _ h; omega
            · omega
          have HOWN3 : Hid (w3.ownsRow w.heap.size 48 4 (.slice (some ⟨gg, 0, none⟩) (done.length + 1) cap) (done ++ [(⟨a.name, qf.ref, pf.lo, pf.hi⟩ : Hp)]).length (hpcells (done ++ [(⟨a.name, qf.ref, pf.lo, pf.hi⟩ : Hp)]))) := by
            unfold Hid
            rw [hpcells_snoc, List.length_append]
            exact hown3
          have HLT3 : Hid (∀ j, (Value.slice (some ⟨gg, 0, none⟩) (done.length + 1) cap).ownBlock = some j → w.heap.size ≤ j ∧ j < w3.heap.size) := fun j hj => by
            have e : gg = j := by simpa [Value.ownBlock] using hj
            omega
          have neb2 : (Value.slice (some ⟨gg, 0, none⟩) (done.length + 1) cap).ownBlock ≠ some wr.heap.size := fun h => by
            have e : gg = wr.heap.size := by simpa [Value.ownBlock] using h
            omega
          have nep2 : (Value.slice (some ⟨gg, 0, none⟩) (done.length + 1) cap).ownBlock ≠ some gp := fun h => by
            have e : gg = gp := by simpa [Value.ownBlock] using h
            omega
          obtain ⟨D, hD⟩ : ∃ D, done ++ [(⟨a.name, qf.ref, pf.lo, pf.hi⟩ : Hp)] = D := ⟨_, rfl⟩
          rw [hD] at HE HOWN3
          have hDl : done.length + 1 = D.length := by rw [← hD, List.length_append]; rfl
          rw [hDl] at HOWN3 HLT3 neb2 nep2 ⊢
          have hD121 : D.length ≤ 121 := by omega
          clear hown3 hgrow hat hown2 hs3 b0 b1 y1 y2 y3 y4 hD hDl c2 c3 c4 f4 f5
          rcases hB with ⟨h1, hi0, hd1, rfl⟩ | ⟨h1, hi0, hd1, rfl⟩ | ⟨hi0, rfl⟩
          · obtain ⟨gq, oq, cq, hAq, _, z0, z1, z2, z3⟩ := P0.out.at_ h1
            rw [HN2.out] at hAq
            simp only [Value.slice.injEq, Option.some.injEq, Addr.mk.injEq, and_true, true_and] at hAq
            obtain ⟨⟨rfl, rfl⟩, rfl⟩ := hAq
            have t0 := (HB3.out.cell (p := ⟨gp, op + (i - 1) * 4, none⟩) hgp).trans z0
            have t1 := (HB3.out.cell (p := ⟨gp, op + (i - 1) * 4 + 1, none⟩) hgp).trans z1
            have t2 := (HB3.out.cell (p := ⟨gp, op + (i - 1) * 4 + 2, none⟩) hgp).trans z2
            have t3 := (HB3.out.cell (p := ⟨gp, op + (i - 1) * 4 + 3, none⟩) hgp).trans z3
            obtain ⟨q, hq⟩ : ∃ q, a.pts[i - 1] = q := ⟨_, rfl⟩
            rw [hq] at t0 t1 t2 t3 hd1 HE
            clear z0 z1 z2 z3 hq h1
            have s0 : (0 : Int) < (i : Int) := by omega
            have s1 : (1 : Int) ≤ (i : Int) := by omega
            have s2 : (0 : Int) ≤ (i : Int) - 1 := by omega
            have s3 : (i : Int) - 1 < (n2 : Int) := by omega
            have s4 : (i : Int) < (n2 : Int) + 1 := by omega
            have s5 : (i : Int) ≤ (n2 : Int) := by omega
            have s6 : 1 ≤ i := by omega
            have s7 : 0 < i := by omega
            have e5 : ((q.dir : Int) != 1) = true := bne_iff_ne.2 (by omega)
            have e6 : ((q.dir : Int) == 1) = false := beq_eq_false_iff_ne.2 (by omega)
            clear hd1 hi0
            go_wp2
            have s8 : ((i : Int) - 1).toNat = i - 1 := by omega
            have s9 : IntKind.i64.wrap ((i : Int) - 1) = (i : Int) - 1 := IntWalk.i64_in _ (by omega)
            have ownB := HOWN3.out
            go_region_held3 (fun wx => wx.cell? ⟨wr.heap.size, 0, none⟩ = some (.string (sb a.name)) ∧ wx.cell? ⟨wr.heap.size, 1, none⟩ = some (.slice (some ⟨gp, op, none⟩) n2 cp) ∧ wx.cell? ⟨gp, op + (i - 1) * 4, none⟩ = some (.string (sb q.ref)) ∧ wx.cell? ⟨gp, op + (i - 1) * 4 + 1, none⟩ = some (.int .i64 q.lo) ∧ wx.cell? ⟨gp, op + (i - 1) * 4 + 2, none⟩ = some (.int .i64 q.hi))
              (first
                | go_keep
                | (go_split_ands
                   refine ⟨?_, ?_, ?_, ?_, ?_⟩
                   · (rw [hgrowB.cell_far _ (by simp; omega) (Ne.symm neb2)]; assumption)
                   · (rw [hgrowB.cell_far _ (by simp; omega) (Ne.symm neb2)]; assumption)
                   · (rw [hgrowB.cell_far _ (by simp; omega) (Ne.symm nep2)]; assumption)
                   · (rw [hgrowB.cell_far _ (by simp; omega) (Ne.symm nep2)]; assumption)
                   · (rw [hgrowB.cell_far _ (by simp; omega) (Ne.symm nep2)]; assumption)))
              ((refine step_append_lies _ (by rfl) _ _ _ (by rfl) w.heap.size 48 ip (.agg #[.string ⟨#[]⟩, .string ⟨#[]⟩, .int .i64 0, .int .i64 0]) 4 48 Tryz.underlying24 hip hz0 hz1 hz2 rfl (by omega) (.slice (some ⟨gg, 0, none⟩) D.length cap) D.length (hpcells D) (by rfl) ((ownB.alloc _).drew) ⟨w3.heap.size, 0, none⟩ 1 1 [.string (sb a.name), .string (sb q.ref), .int .i64 q.lo, .int .i64 q.hi] (by rfl) (by rfl) (World.news_of_block (cs := #[.string (sb a.name), .string (sb q.ref), .int .i64 q.lo, .int .i64 q.hi]) (t := 48) (fr := (0, 0)) (heap_alloc_new w3 _)) (by simp [Value.oneCell']) (by omega) (by unfold maxLen; omega) (by omega) (by simp; omega) (w3.heap.size + 1) (by simp) ?_; intro ggB capB w3B hown3B hgrowB hatB hlt3B))
            have HBZ := Lib.hid ((((HB3.out.alloc (by omega) _).drew).grown hgrowB (by simp; omega) (fun j hj => (HLT3.out j hj).1)) : Below w.heap.size w w3B)
            have HOZ : Hid (w3B.ownsRow w.heap.size 48 4 (.slice (some ⟨ggB, 0, none⟩) (D.length + 1) capB) (hopsL (L.take (k + 1)) (bl r)).length (hpcells (hopsL (L.take (k + 1)) (bl r)))) := by
              unfold Hid
              rw [HE.out, hpcells_snoc, List.length_append]
              exact hown3B
            clear ownB hown3B hgrowB hatB
            go_wp2
            go_roundw
            case rel => exact ⟨k + 1, hlt, by go_num, HOZ.out, HBZ.out⟩
            case measure => simp [intOf]; omega
          · obtain ⟨gq, oq, cq, hAq, _, z0, z1, z2, z3⟩ := P0.out.at_ h1
            rw [HN2.out] at hAq
            simp only [Value.slice.injEq, Option.some.injEq, Addr.mk.injEq, and_true, true_and] at hAq
            obtain ⟨⟨rfl, rfl⟩, rfl⟩ := hAq
            have t0 := (HB3.out.cell (p := ⟨gp, op + (i - 1) * 4, none⟩) hgp).trans z0
            have t1 := (HB3.out.cell (p := ⟨gp, op + (i - 1) * 4 + 1, none⟩) hgp).trans z1
            have t2 := (HB3.out.cell (p := ⟨gp, op + (i - 1) * 4 + 2, none⟩) hgp).trans z2
            have t3 := (HB3.out.cell (p := ⟨gp, op + (i - 1) * 4 + 3, none⟩) hgp).trans z3
            obtain ⟨q, hq⟩ : ∃ q, a.pts[i - 1] = q := ⟨_, rfl⟩
            rw [hq] at t0 t1 t2 t3 hd1 
            clear z0 z1 z2 z3 hq h1
            have s0 : (0 : Int) < (i : Int) := by omega
            have s1 : (1 : Int) ≤ (i : Int) := by omega
            have s2 : (0 : Int) ≤ (i : Int) - 1 := by omega
            have s3 : (i : Int) - 1 < (n2 : Int) := by omega
            have s4 : (i : Int) < (n2 : Int) + 1 := by omega
            have s5 : (i : Int) ≤ (n2 : Int) := by omega
            have s6 : 1 ≤ i := by omega
            have s7 : 0 < i := by omega
            have e5 : ((q.dir : Int) != 1) = false := bne_eq_false_iff_eq.2 (by omega)
            have e6 : ((q.dir : Int) == 1) = true := beq_iff_eq.2 (by omega)
            clear hd1 hi0
            rw [List.append_nil] at HE
            have HOZ : Hid (w3.ownsRow w.heap.size 48 4 (.slice (some ⟨gg, 0, none⟩) D.length cap) (hopsL (L.take (k + 1)) (bl r)).length (hpcells (hopsL (L.take (k + 1)) (bl r)))) := by
              unfold Hid
              rw [HE.out]
              exact HOWN3.out
            go_wp2
            go_roundw
            case rel => exact ⟨k + 1, hlt, by go_num, HOZ.out, HB3.out⟩
            case measure => simp [intOf]; omega
          · have s0 : (i : Int) ≤ 0 := by omega
            have s1 : (i : Int) < 1 := by omega
            have s2 : i < 1 := by omega
            have HI0 := Lib.hid hi0
            clear hi0
            rw [List.append_nil] at HE
            have HOZ : Hid (w3.ownsRow w.heap.size 48 4 (.slice (some ⟨gg, 0, none⟩) D.length cap) (hopsL (L.take (k + 1)) (bl r)).length (hpcells (hopsL (L.take (k + 1)) (bl r)))) := by
              unfold Hid
              rw [HE.out]
              exact HOWN3.out
            go_wp2
            go_roundw
            case rel => exact ⟨k + 1, hlt, by go_num, HOZ.out, HB3.out⟩
            case measure => simp [intOf]; omega
        · have h1' : i + 1 < n2 := by omega
          obtain ⟨pf, hpf⟩ : ∃ pf, a.pts[i] = pf := ⟨_, rfl⟩
          rw [hpf] at y1 y2 y3 hdF
          clear z0 z1 z2 z3 hpf h1 hFe hBe hn2
          have f1 : (i : Int) + 1 < (n2 : Int) := by omega
          have f2 : (i : Int) < (n2 : Int) - 1 := by omega
          have e3 : ((pf.dir : Int) != 2) = false := bne_eq_false_iff_eq.2 (by omega)
          have e4 : ((pf.dir : Int) == 2) = true := beq_iff_eq.2 (by omega)
          rw [List.append_nil] at HE
          clear hdF hown2
          rcases hB with ⟨h1, hi0, hd1, rfl⟩ | ⟨h1, hi0, hd1, rfl⟩ | ⟨hi0, rfl⟩
          · obtain ⟨gq, oq, cq, hAq, _, z0, z1, z2, z3⟩ := P0.out.at_ h1
            rw [HN2.out] at hAq
            simp only [Value.slice.injEq, Option.some.injEq, Addr.mk.injEq, and_true, true_and] at hAq
            obtain ⟨⟨rfl, rfl⟩, rfl⟩ := hAq
            have t0 := (HB2.out.cell (p := ⟨gp, op + (i - 1) * 4, none⟩) hgp).trans z0
            have t1 := (HB2.out.cell (p := ⟨gp, op + (i - 1) * 4 + 1, none⟩) hgp).trans z1
            have t2 := (HB2.out.cell (p := ⟨gp, op + (i - 1) * 4 + 2, none⟩) hgp).trans z2
            have t3 := (HB2.out.cell (p := ⟨gp, op + (i - 1) * 4 + 3, none⟩) hgp).trans z3
            obtain ⟨q, hq⟩ : ∃ q, a.pts[i - 1] = q := ⟨_, rfl⟩
            rw [hq] at t0 t1 t2 t3 hd1 HE
            clear z0 z1 z2 z3 hq h1
            have s0 : (0 : Int) < (i : Int) := by omega
            have s1 : (1 : Int) ≤ (i : Int) := by omega
            have s2 : (0 : Int) ≤ (i : Int) - 1 := by omega
            have s3 : (i : Int) - 1 < (n2 : Int) := by omega
            have s4 : (i : Int) < (n2 : Int) + 1 := by omega
            have s5 : (i : Int) ≤ (n2 : Int) := by omega
            have s6 : 1 ≤ i := by omega
            have s7 : 0 < i := by omega
            have e5 : ((q.dir : Int) != 1) = true := bne_iff_ne.2 (by omega)
            have e6 : ((q.dir : Int) == 1) = false := beq_eq_false_iff_ne.2 (by omega)
            clear hd1 hi0
            go_wp2
            have s8 : ((i : Int) - 1).toNat = i - 1 := by omega
            have s9 : IntKind.i64.wrap ((i : Int) - 1) = (i : Int) - 1 := IntWalk.i64_in _ (by omega)
            have ownB := HOWN2.out
            go_region_held3 (fun wx => wx.cell? ⟨wr.heap.size, 0, none⟩ = some (.string (sb a.name)) ∧ wx.cell? ⟨wr.heap.size, 1, none⟩ = some (.slice (some ⟨gp, op, none⟩) n2 cp) ∧ wx.cell? ⟨gp, op + (i - 1) * 4, none⟩ = some (.string (sb q.ref)) ∧ wx.cell? ⟨gp, op + (i - 1) * 4 + 1, none⟩ = some (.int .i64 q.lo) ∧ wx.cell? ⟨gp, op + (i - 1) * 4 + 2, none⟩ = some (.int .i64 q.hi))
              (first
                | go_keep
                | (go_split_ands
                   refine ⟨?_, ?_, ?_, ?_, ?_⟩
                   · (rw [hgrowB.cell_far _ (by simp; omega) (Ne.symm neb)]; assumption)
                   · (rw [hgrowB.cell_far _ (by simp; omega) (Ne.symm neb)]; assumption)
                   · (rw [hgrowB.cell_far _ (by simp; omega) (Ne.symm nep)]; assumption)
                   · (rw [hgrowB.cell_far _ (by simp; omega) (Ne.symm nep)]; assumption)
                   · (rw [hgrowB.cell_far _ (by simp; omega) (Ne.symm nep)]; assumption)))
              ((refine step_append_lies _ (by rfl) _ _ _ (by rfl) w.heap.size 48 ip (.agg #[.string ⟨#[]⟩, .string ⟨#[]⟩, .int .i64 0, .int .i64 0]) 4 48 Tryz.underlying24 hip hz0 hz1 hz2 rfl (by omega) u5 done.length (hpcells done) (by rfl) ((ownB.alloc _).drew) ⟨w2.heap.size, 0, none⟩ 1 1 [.string (sb a.name), .string (sb q.ref), .int .i64 q.lo, .int .i64 q.hi] (by rfl) (by rfl) (World.news_of_block (cs := #[.string (sb a.name), .string (sb q.ref), .int .i64 q.lo, .int .i64 q.hi]) (t := 48) (fr := (0, 0)) (heap_alloc_new w2 _)) (by simp [Value.oneCell']) (by omega) (by unfold maxLen; omega) (by omega) (by simp; omega) (w2.heap.size + 1) (by simp) ?_; intro ggB capB w3B hown3B hgrowB hatB hlt3B))
            have HBZ := Lib.hid ((((HB2.out.alloc (by omega) _).drew).grown hgrowB (by simp; omega) (fun j hj => (HLT2.out j hj).1)) : Below w.heap.size w w3B)
            have HOZ : Hid (w3B.ownsRow w.heap.size 48 4 (.slice (some ⟨ggB, 0, none⟩) (done.length + 1) capB) (hopsL (L.take (k + 1)) (bl r)).length (hpcells (hopsL (L.take (k + 1)) (bl r)))) := by
              unfold Hid
              rw [HE.out, hpcells_snoc, List.length_append]
              exact hown3B
            clear ownB hown3B hgrowB hatB
            go_wp2
            go_roundw
            case rel => exact ⟨k + 1, hlt, by go_num, HOZ.out, HBZ.out⟩
            case measure => simp [intOf]; omega
          · obtain ⟨gq, oq, cq, hAq, _, z0, z1, z2, z3⟩ := P0.out.at_ h1
            rw [HN2.out] at hAq
            simp only [Value.slice.injEq, Option.some.injEq, Addr.mk.injEq, and_true, true_and] at hAq
            obtain ⟨⟨rfl, rfl⟩, rfl⟩ := hAq
            have t0 := (HB2.out.cell (p := ⟨gp, op + (i - 1) * 4, none⟩) hgp).trans z0
            have t1 := (HB2.out.cell (p := ⟨gp, op + (i - 1) * 4 + 1, none⟩) hgp).trans z1
            have t2 := (HB2.out.cell (p := ⟨gp, op + (i - 1) * 4 + 2, none⟩) hgp).trans z2
            have t3 := (HB2.out.cell (p := ⟨gp, op + (i - 1) * 4 + 3, none⟩) hgp).trans z3
            obtain ⟨q, hq⟩ : ∃ q, a.pts[i - 1] = q := ⟨_, rfl⟩
            rw [hq] at t0 t1 t2 t3 hd1 
            clear z0 z1 z2 z3 hq h1
            have s0 : (0 : Int) < (i : Int) := by omega
            have s1 : (1 : Int) ≤ (i : Int) := by omega
            have s2 : (0 : Int) ≤ (i : Int) - 1 := by omega
            have s3 : (i : Int) - 1 < (n2 : Int) := by omega
            have s4 : (i : Int) < (n2 : Int) + 1 := by omega
            have s5 : (i : Int) ≤ (n2 : Int) := by omega
            have s6 : 1 ≤ i := by omega
            have s7 : 0 < i := by omega
            have e5 : ((q.dir : Int) != 1) = false := bne_eq_false_iff_eq.2 (by omega)
            have e6 : ((q.dir : Int) == 1) = true := beq_iff_eq.2 (by omega)
            clear hd1 hi0
            rw [List.append_nil] at HE
            have HOZ : Hid (w2.ownsRow w.heap.size 48 4 u5 (hopsL (L.take (k + 1)) (bl r)).length (hpcells (hopsL (L.take (k + 1)) (bl r)))) := by
              unfold Hid
              rw [HE.out]
              exact HOWN2.out
            go_wp2
            go_roundw
            case rel => exact ⟨k + 1, hlt, by go_num, HOZ.out, HB2.out⟩
            case measure => simp [intOf]; omega
          · have s0 : (i : Int) ≤ 0 := by omega
            have s1 : (i : Int) < 1 := by omega
            have s2 : i < 1 := by omega
            have HI0 := Lib.hid hi0
            clear hi0
            rw [List.append_nil] at HE
            have HOZ : Hid (w2.ownsRow w.heap.size 48 4 u5 (hopsL (L.take (k + 1)) (bl r)).length (hpcells (hopsL (L.take (k + 1)) (bl r)))) := by
              unfold Hid
              rw [HE.out]
              exact HOWN2.out
            go_wp2
            go_roundw
            case rel => exact ⟨k + 1, hlt, by go_num, HOZ.out, HB2.out⟩
            case measure => simp [intOf]; omega
        · have f1 : (n2 : Int) ≤ (i : Int) + 1 := by omega
          have f2 : (n2 : Int) - 1 ≤ (i : Int) := by omega
          rw [List.append_nil] at HE
          clear z0 z1 z2 z3 h1 hFe hBe hn2 hown2
          rcases hB with ⟨h1, hi0, hd1, rfl⟩ | ⟨h1, hi0, hd1, rfl⟩ | ⟨hi0, rfl⟩
          · obtain ⟨gq, oq, cq, hAq, _, z0, z1, z2, z3⟩ := P0.out.at_ h1
            rw [HN2.out] at hAq
            simp only [Value.slice.injEq, Option.some.injEq, Addr.mk.injEq, and_true, true_and] at hAq
            obtain ⟨⟨rfl, rfl⟩, rfl⟩ := hAq
            have t0 := (HB2.out.cell (p := ⟨gp, op + (i - 1) * 4, none⟩) hgp).trans z0
            have t1 := (HB2.out.cell (p := ⟨gp, op + (i - 1) * 4 + 1, none⟩) hgp).trans z1
            have t2 := (HB2.out.cell (p := ⟨gp, op + (i - 1) * 4 + 2, none⟩) hgp).trans z2
            have t3 := (HB2.out.cell (p := ⟨gp, op + (i - 1) * 4 + 3, none⟩) hgp).trans z3
            obtain ⟨q, hq⟩ : ∃ q, a.pts[i - 1] = q := ⟨_, rfl⟩
            rw [hq] at t0 t1 t2 t3 hd1 HE
            clear z0 z1 z2 z3 hq h1
            have s0 : (0 : Int) < (i : Int) := by omega
            have s1 : (1 : Int) ≤ (i : Int) := by omega
            have s2 : (0 : Int) ≤ (i : Int) - 1 := by omega
            have s3 : (i : Int) - 1 < (n2 : Int) := by omega
            have s4 : (i : Int) < (n2 : Int) + 1 := by omega
            have s5 : (i : Int) ≤ (n2 : Int) := by omega
            have s6 : 1 ≤ i := by omega
            have s7 : 0 < i := by omega
            have e5 : ((q.dir : Int) != 1) = true := bne_iff_ne.2 (by omega)
            have e6 : ((q.dir : Int) == 1) = false := beq_eq_false_iff_ne.2 (by omega)
            clear hd1 hi0
            go_wp2
            have s8 : ((i : Int) - 1).toNat = i - 1 := by omega
            have s9 : IntKind.i64.wrap ((i : Int) - 1) = (i : Int) - 1 := IntWalk.i64_in _ (by omega)
            have ownB := HOWN2.out
            go_region_held3 (fun wx => wx.cell? ⟨wr.heap.size, 0, none⟩ = some (.string (sb a.name)) ∧ wx.cell? ⟨wr.heap.size, 1, none⟩ = some (.slice (some ⟨gp, op, none⟩) n2 cp) ∧ wx.cell? ⟨gp, op + (i - 1) * 4, none⟩ = some (.string (sb q.ref)) ∧ wx.cell? ⟨gp, op + (i - 1) * 4 + 1, none⟩ = some (.int .i64 q.lo) ∧ wx.cell? ⟨gp, op + (i - 1) * 4 + 2, none⟩ = some (.int .i64 q.hi))
              (first
                | go_keep
                | (go_split_ands
                   refine ⟨?_, ?_, ?_, ?_, ?_⟩
                   · (rw [hgrowB.cell_far _ (by simp; omega) (Ne.symm neb)]; assumption)
                   · (rw [hgrowB.cell_far _ (by simp; omega) (Ne.symm neb)]; assumption)
                   · (rw [hgrowB.cell_far _ (by simp; omega) (Ne.symm nep)]; assumption)
                   · (rw [hgrowB.cell_far _ (by simp; omega) (Ne.symm nep)]; assumption)
                   · (rw [hgrowB.cell_far _ (by simp; omega) (Ne.symm nep)]; assumption)))
              ((refine step_append_lies _ (by rfl) _ _ _ (by rfl) w.heap.size 48 ip (.agg #[.string ⟨#[]⟩, .string ⟨#[]⟩, .int .i64 0, .int .i64 0]) 4 48 Tryz.underlying24 hip hz0 hz1 hz2 rfl (by omega) u5 done.length (hpcells done) (by rfl) ((ownB.alloc _).drew) ⟨w2.heap.size, 0, none⟩ 1 1 [.string (sb a.name), .string (sb q.ref), .int .i64 q.lo, .int .i64 q.hi] (by rfl) (by rfl) (World.news_of_block (cs := #[.string (sb a.name), .string (sb q.ref), .int .i64 q.lo, .int .i64 q.hi]) (t := 48) (fr := (0, 0)) (heap_alloc_new w2 _)) (by simp [Value.oneCell']) (by omega) (by unfold maxLen; omega) (by omega) (by simp; omega) (w2.heap.size + 1) (by simp) ?_; intro ggB capB w3B hown3B hgrowB hatB hlt3B))
            have HBZ := Lib.hid ((((HB2.out.alloc (by omega) _).drew).grown hgrowB (by simp; omega) (fun j hj => (HLT2.out j hj).1)) : Below w.heap.size w w3B)
            have HOZ : Hid (w3B.ownsRow w.heap.size 48 4 (.slice (some ⟨ggB, 0, none⟩) (done.length + 1) capB) (hopsL (L.take (k + 1)) (bl r)).length (hpcells (hopsL (L.take (k + 1)) (bl r)))) := by
              unfold Hid
              rw [HE.out, hpcells_snoc, List.length_append]
              exact hown3B
            clear ownB hown3B hgrowB hatB
            go_wp2
            go_roundw
            case rel => exact ⟨k + 1, hlt, by go_num, HOZ.out, HBZ.out⟩
            case measure => simp [intOf]; omega
          · obtain ⟨gq, oq, cq, hAq, _, z0, z1, z2, z3⟩ := P0.out.at_ h1
            rw [HN2.out] at hAq
            simp only [Value.slice.injEq, Option.some.injEq, Addr.mk.injEq, and_true, true_and] at hAq
            obtain ⟨⟨rfl, rfl⟩, rfl⟩ := hAq
            have t0 := (HB2.out.cell (p := ⟨gp, op + (i - 1) * 4, none⟩) hgp).trans z0
            have t1 := (HB2.out.cell (p := ⟨gp, op + (i - 1) * 4 + 1, none⟩) hgp).trans z1
            have t2 := (HB2.out.cell (p := ⟨gp, op + (i - 1) * 4 + 2, none⟩) hgp).trans z2
            have t3 := (HB2.out.cell (p := ⟨gp, op + (i - 1) * 4 + 3, none⟩) hgp).trans z3
            obtain ⟨q, hq⟩ : ∃ q, a.pts[i - 1] = q := ⟨_, rfl⟩
            rw [hq] at t0 t1 t2 t3 hd1 
            clear z0 z1 z2 z3 hq h1
            have s0 : (0 : Int) < (i : Int) := by omega
            have s1 : (1 : Int) ≤ (i : Int) := by omega
            have s2 : (0 : Int) ≤ (i : Int) - 1 := by omega
            have s3 : (i : Int) - 1 < (n2 : Int) := by omega
            have s4 : (i : Int) < (n2 : Int) + 1 := by omega
            have s5 : (i : Int) ≤ (n2 : Int) := by omega
            have s6 : 1 ≤ i := by omega
            have s7 : 0 < i := by omega
            have e5 : ((q.dir : Int) != 1) = false := bne_eq_false_iff_eq.2 (by omega)
            have e6 : ((q.dir : Int) == 1) = true := beq_iff_eq.2 (by omega)
            clear hd1 hi0
            rw [List.append_nil] at HE
            have HOZ : Hid (w2.ownsRow w.heap.size 48 4 u5 (hopsL (L.take (k + 1)) (bl r)).length (hpcells (hopsL (L.take (k + 1)) (bl r)))) := by
              unfold Hid
              rw [HE.out]
              exact HOWN2.out
            go_wp2
            go_roundw
            case rel => exact ⟨k + 1, hlt, by go_num, HOZ.out, HB2.out⟩
            case measure => simp [intOf]; omega
          · have s0 : (i : Int) ≤ 0 := by omega
            have s1 : (i : Int) < 1 := by omega
            have s2 : i < 1 := by omega
            have HI0 := Lib.hid hi0
            clear hi0
            rw [List.append_nil] at HE
            have HOZ : Hid (w2.ownsRow w.heap.size 48 4 u5 (hopsL (L.take (k + 1)) (bl r)).length (hpcells (hopsL (L.take (k + 1)) (bl r)))) := by
              unfold Hid
              rw [HE.out]
              exact HOWN2.out
            go_wp2
            go_roundw
            case rel => exact ⟨k + 1, hlt, by go_num, HOZ.out, HB2.out⟩
            case measure => simp [intOf]; omega
    · have HF : Hid (L.take k = L) := List.take_of_length_le (by have := HN.out; omega)
      rw [HF.out] at hown
      have hrd := Lib.hid (hpsR_own hown)
      clear hown
      go_wp2
      go_ret
      exact ⟨_, rfl, hrd.out, hbr⟩
set_option maxRecDepth 100000 in
set_option maxHeartbeats 8000000 in
theorem hops_rindex_any (v : Value) (L : List Aw) (r : ByteArray) (w : World) (h : AwsR w v L) (hL : L.length ≤ 60) :
    Calls Tryz.prog 27 #[v, .string r] w (HopPost (hopsL L (bl r)) w) := by
  obtain ⟨ip, hip, hz0, hz1, hz2⟩ := info_parts infoHp
  obtain ⟨A, c, rfl, hc, hm⟩ := h.form
  unfold maxLen at hm
  have H := Lib.hid h
  clear h
  obtain ⟨n, hnn⟩ : ∃ n, L.length = n := ⟨_, rfl⟩
  rw [hnn] at hc H hL
  rw [hnn]
  have HN := Lib.hid hnn
  clear hnn
  go_enter Tryz.func27, Tryz.ntmps27
  go_wp2
  go_loopw [5, 11] (fun ov iv wr => ∃ k : Nat, k ≤ n ∧ iv = .int .i64 k ∧ wr.ownsRow w.heap.size 48 4 ov (hopsL (L.take k) (bl r)).length (hpcells (hopsL (L.take k) (bl r))) ∧ Below w.heap.size w wr) (fun _ iv _ => n - (intOf iv).toNat)
  case atStart => exact ⟨0, Nat.zero_le _, rfl, World.ownsRow_nil _ _ _ _, Below.refl _ _⟩
  case round =>
    obtain ⟨k, hk, rfl, hown, hbr⟩ := hrel
    by_cases hlt : k < n
    · have hkl : k < L.length := by rw [HN.out]; exact hlt
      have HS := Lib.hid (hopsL_step (bl r) hkl)
      have hlen := hopsL_len (L.take k) (bl r)
      rw [List.length_take] at hlen
      obtain ⟨done, hd⟩ : ∃ d, hopsL (L.take k) (bl r) = d := ⟨_, rfl⟩
      rw [hd] at HS hown hlen
      obtain ⟨g, o, c', pv, hA, hg, x0, x1, x2, x3⟩ := H.out.at_ hkl
      rw [HN.out] at hA
      simp only [Value.slice.injEq, true_and] at hA
      obtain ⟨rfl, rfl⟩ := hA
      have k0 := (hbr.cell (p := ⟨g, o + k * 2, none⟩) hg).trans x0
      have k1 := (hbr.cell (p := ⟨g, o + k * 2 + 1, none⟩) hg).trans x1
      have P0 := Lib.hid x2
      obtain ⟨a, ha⟩ : ∃ a, L[k] = a := ⟨_, rfl⟩
      rw [ha] at k0 HS P0 x3
      have hl60 : done.length ≤ 120 := by omega
      clear x0 x1 x2 ha hkl hg hd hlen
      obtain ⟨Ap, cp, rfl, hcp, hcpm⟩ := P0.out.form
      unfold maxLen at hcpm
      have hlt1 : ∀ j, u5.ownBlock = some j → w.heap.size ≤ j ∧ j < wr.heap.size := hown.lt
      have neb : u5.ownBlock ≠ some wr.heap.size := fun h => by have := hlt1 _ h; omega
      have HLT := Lib.hid hlt1
      clear hlt1
      have hba := Lib.hid (hbr.alloc hbr.size (.cells #[.string (sb a.name), .slice Ap a.pts.length cp] 63))
      go_wp2_with fail
      refine (rindex_any (sb a.name) r _ a.pts _ (P0.out.below hba.out)).mono ?_
      rintro e1 w2 ⟨rfl, hb2⟩
      have HB2 := Lib.hid (hba.out.trans (hb2.mono (by simp; have := hbr.size; omega)))
      have b0 : w2.cell? ⟨wr.heap.size, 0, none⟩ = some (.string (sb a.name)) := (hb2.cell (p := ⟨wr.heap.size, 0, none⟩) (by simp)).trans (by simp [go_sem])
      have b1 : w2.cell? ⟨wr.heap.size, 1, none⟩ = some (.slice Ap a.pts.length cp) := (hb2.cell (p := ⟨wr.heap.size, 1, none⟩) (by simp)).trans (by simp [go_sem])
      have bs : wr.heap.size < w2.heap.size := Nat.lt_of_lt_of_le (by simp) hb2.size
      have hown2 := own_below (hown.alloc (.cells #[.string (sb a.name), .slice Ap a.pts.length cp] 63)) hb2
      clear hown hb2 hba k0 k1
      have hix := idxOf_bd a.pts (bl r)
      have HO : Hid (hopsOf a (bl r) = if idxOf a.pts (bl r) < 0 then [] else hopF a (idxOf a.pts (bl r)).toNat ++ hopB a (idxOf a.pts (bl r)).toNat) := rfl
      obtain ⟨ix, hx⟩ : ∃ ix, idxOf a.pts (bl r) = ix := ⟨_, rfl⟩
      rw [hx] at hix HO
      rw [hx]
      clear hx
      rcases hix with hix | ⟨i, rfl, hi⟩
      · have HE : Hid (hopsL (L.take (k + 1)) (bl r) = done) := by unfold Hid; rw [HS.out, HO.out, if_pos hix, List.append_nil]
        rw [← HE.out] at hown2
        have HOWN := Lib.hid hown2
        clear hown2
        go_wp2
        go_roundw
        case rel => exact ⟨k + 1, hlt, by go_num, HOWN.out, HB2.out⟩
        case measure => simp [intOf]; omega
      · have hF := hopF_ways hi
        have hB := hopB_ways hi
        obtain ⟨gp, op, cz, hAp, hgp, z0, z1, z2, z3⟩ := P0.out.at_ hi
        simp only [Value.slice.injEq, true_and] at hAp
        obtain ⟨rfl, rfl⟩ := hAp
        obtain ⟨F, hFe⟩ : ∃ F, hopF a i = F := ⟨_, rfl⟩
        obtain ⟨Bk, hBe⟩ : ∃ Bk, hopB a i = Bk := ⟨_, rfl⟩
        have HE : Hid (hopsL (L.take (k + 1)) (bl r) = done ++ (F ++ Bk)) := by
          unfold Hid; rw [HS.out, HO.out, if_neg (by omega), Int.toNat_natCast, hFe, hBe]
        rw [hFe] at hF
        rw [hBe] at hB
        rw [← List.append_assoc] at HE
        obtain ⟨n2, hn2⟩ : ∃ n2, a.pts.length = n2 := ⟨_, rfl⟩
        have hi2 : i < n2 := by omega
        rw [hn2] at P0 hcp b1
        have HN2 := Lib.hid hn2
        have y1 := (HB2.out.cell (p := ⟨gp, op + i * 4 + 1, none⟩) hgp).trans z1
        have y2 := (HB2.out.cell (p := ⟨gp, op + i * 4 + 2, none⟩) hgp).trans z2
        have y3 := (HB2.out.cell (p := ⟨gp, op + i * 4 + 3, none⟩) hgp).trans z3
        have nep : u5.ownBlock ≠ some gp := fun h => by have := (HLT.out _ h).1; omega
        have HOWN2 := Lib.hid hown2
        have HLT2 : Hid (∀ j, u5.ownBlock = some j → w.heap.size ≤ j ∧ j < w2.heap.size) := fun j hj => ⟨(HLT.out j hj).1, by have := (HLT.out j hj).2; omega⟩
        have hd121 : done.length ≤ 121 := by omega
        have g0 : (0 : Int) ≤ (i : Int) := by omega
        have g1 : (i : Int) < (n2 : Int) := by omega
        have hwr : w.heap.size ≤ wr.heap.size := hbr.size
        rcases hF with ⟨h1, hdF, rfl⟩ | ⟨h1, hdF, rfl⟩ | ⟨h1, rfl⟩
        · obtain ⟨gq, oq, cq, hAq, _, v0, v1, v2, v3⟩ := P0.out.at_ h1
          rw [hn2] at hAq
          simp only [Value.slice.injEq, Option.some.injEq, Addr.mk.injEq, and_true, true_and] at hAq
          obtain ⟨⟨rfl, rfl⟩, rfl⟩ := hAq
          have y4 := (HB2.out.cell (p := ⟨gp, op + (i + 1) * 4, none⟩) hgp).trans v0
          have h1' : i + 1 < n2 := by omega
          obtain ⟨pf, hpf⟩ : ∃ pf, a.pts[i] = pf := ⟨_, rfl⟩
          obtain ⟨qf, hqf⟩ : ∃ qf, a.pts[i + 1] = qf := ⟨_, rfl⟩
          rw [hpf] at y1 y2 y3 hdF HE
          rw [hqf] at y4 HE
          clear v0 v1 v2 v3 z0 z1 z2 z3 hpf hqf h1 hFe hBe hn2
          have f1 : (i : Int) + 1 < (n2 : Int) := by omega
          have f2 : (i : Int) < (n2 : Int) - 1 := by omega
          have e3 : ((pf.dir : Int) != 2) = true := bne_iff_ne.2 (by omega)
          have e4 : ((pf.dir : Int) == 2) = false := beq_eq_false_iff_ne.2 (by omega)
          clear hdF
          go_wp2
          have f3 : (0 : Int) ≤ (i : Int) + 1 := by omega
          have f4 : ((i : Int) + 1).toNat = i + 1 := by omega
          have f5 : IntKind.i64.wrap ((i : Int) + 1) = (i : Int) + 1 := IntWalk.i64_in _ (by omega)
          go_region_held3 (fun wx => wx.cell? ⟨wr.heap.size, 0, none⟩ = some (.string (sb a.name)) ∧ wx.cell? ⟨wr.heap.size, 1, none⟩ = some (.slice (some ⟨gp, op, none⟩) n2 cp) ∧ wx.cell? ⟨gp, op + (i + 1) * 4, none⟩ = some (.string (sb qf.ref)) ∧ wx.cell? ⟨gp, op + i * 4 + 1, none⟩ = some (.int .i64 pf.lo) ∧ wx.cell? ⟨gp, op + i * 4 + 2, none⟩ = some (.int .i64 pf.hi))
            (first
              | go_keep
              | (go_split_ands
                 refine ⟨?_, ?_, ?_, ?_, ?_⟩
                 · (rw [hgrow.cell_far _ (by simp; omega) (Ne.symm neb)]; assumption)
                 · (rw [hgrow.cell_far _ (by simp; omega) (Ne.symm neb)]; assumption)
                 · (rw [hgrow.cell_far _ (by simp; omega) (Ne.symm nep)]; assumption)
                 · (rw [hgrow.cell_far _ (by simp; omega) (Ne.symm nep)]; assumption)
                 · (rw [hgrow.cell_far _ (by simp; omega) (Ne.symm nep)]; assumption)))
            ((refine step_append_lies _ (by rfl) _ _ _ (by rfl) w.heap.size 48 ip (.agg #[.string ⟨#[]⟩, .string ⟨#[]⟩, .int .i64 0, .int .i64 0]) 4 48 Tryz.underlying24 hip hz0 hz1 hz2 rfl (by omega) u5 done.length (hpcells done) (by rfl) ((hown2.alloc _).drew) ⟨w2.heap.size, 0, none⟩ 1 1 [.string (sb a.name), .string (sb qf.ref), .int .i64 pf.lo, .int .i64 pf.hi] (by rfl) (by rfl) (World.news_of_block (cs := #[.string (sb a.name), .string (sb qf.ref), .int .i64 pf.lo, .int .i64 pf.hi]) (t := 48) (fr := (0, 0)) (heap_alloc_new w2 _)) (by simp [Value.oneCell']) (by omega) (by unfold maxLen; omega) (by omega) (by simp; omega) (w2.heap.size + 1) (by simp) ?_; intro gg cap w3 hown3 hgrow hat hlt3))
          have HB3 := Lib.hid ((((HB2.out.alloc (by omega) _).drew).grown hgrow (by simp; omega) (fun j hj => (HLT.out j hj).1)) : Below w.heap.size w w3)
          obtain ⟨c0, c1, c2, c3, c4⟩ := ‹w3.cell? _ = _ ∧ _ ∧ _ ∧ _ ∧ _›
          have hs3 := hgrow.size
          have bs3 : w2.heap.size + 1 ≤ w3.heap.size := by simp at hs3; omega
          have hgg : w.heap.size ≤ gg ∧ gg ≠ wr.heap.size := by
            rcases hat with h | h
            · have h2 := HLT.out _ h; omega
            · omega
          have HOWN3 : Hid (w3.ownsRow w.heap.size 48 4 (.slice (some ⟨gg, 0, none⟩) (done.length + 1) cap) (done ++ [(⟨a.name, qf.ref, pf.lo, pf.hi⟩ : Hp)]).length (hpcells (done ++ [(⟨a.name, qf.ref, pf.lo, pf.hi⟩ : Hp)]))) := by
            unfold Hid
            rw [hpcells_snoc, List.length_append]
            exact hown3
          have HLT3 : Hid (∀ j, (Value.slice (some ⟨gg, 0, none⟩) (done.length + 1) cap).ownBlock = some j → w.heap.size ≤ j ∧ j < w3.heap.size) := fun j hj => by
            have e : gg = j := by simpa [Value.ownBlock] using hj
            omega
          have neb2 : (Value.slice (some ⟨gg, 0, none⟩) (done.length + 1) cap).ownBlock ≠ some wr.heap.size := fun h => by
            have e : gg = wr.heap.size := by simpa [Value.ownBlock] using h
            omega
          have nep2 : (Value.slice (some ⟨gg, 0, none⟩) (done.length + 1) cap).ownBlock ≠ some gp := fun h => by
            have e : gg = gp := by simpa [Value.ownBlock] using h
            omega
          obtain ⟨D, hD⟩ : ∃ D, done ++ [(⟨a.name, qf.ref, pf.lo, pf.hi⟩ : Hp)] = D := ⟨_, rfl⟩
          rw [hD] at HE HOWN3
          have hDl : done.length + 1 = D.length := by rw [← hD, List.length_append]; rfl
          rw [hDl] at HOWN3 HLT3 neb2 nep2 ⊢
          have hD121 : D.length ≤ 121 := by omega
          clear hown3 hgrow hat hown2 hs3 b0 b1 y1 y2 y3 y4 hD hDl c2 c3 c4 f4 f5
          rcases hB with ⟨h1, hi0, hd1, rfl⟩ | ⟨h1, hi0, hd1, rfl⟩ | ⟨hi0, rfl⟩
          · obtain ⟨gq, oq, cq, hAq, _, z0, z1, z2, z3⟩ := P0.out.at_ h1
            rw [HN2.out] at hAq
            simp only [Value.slice.injEq, Option.some.injEq, Addr.mk.injEq, and_true, true_and] at hAq
            obtain ⟨⟨rfl, rfl⟩, rfl⟩ := hAq
            have t0 := (HB3.out.cell (p := ⟨gp, op + (i - 1) * 4, none⟩) hgp).trans z0
            have t1 := (HB3.out.cell (p := ⟨gp, op + (i - 1) * 4 + 1, none⟩) hgp).trans z1
            have t2 := (HB3.out.cell (p := ⟨gp, op + (i - 1) * 4 + 2, none⟩) hgp).trans z2
            have t3 := (HB3.out.cell (p := ⟨gp, op + (i - 1) * 4 + 3, none⟩) hgp).trans z3
            obtain ⟨q, hq⟩ : ∃ q, a.pts[i - 1] = q := ⟨_, rfl⟩
            rw [hq] at t0 t1 t2 t3 hd1 HE
            clear z0 z1 z2 z3 hq h1
            have s0 : (0 : Int) < (i : Int) := by omega
            have s1 : (1 : Int) ≤ (i : Int) := by omega
            have s2 : (0 : Int) ≤ (i : Int) - 1 := by omega
            have s3 : (i : Int) - 1 < (n2 : Int) := by omega
            have s4 : (i : Int) < (n2 : Int) + 1 := by omega
            have s5 : (i : Int) ≤ (n2 : Int) := by omega
            have s6 : 1 ≤ i := by omega
            have s7 : 0 < i := by omega
            have e5 : ((q.dir : Int) != 1) = true := bne_iff_ne.2 (by omega)
            have e6 : ((q.dir : Int) == 1) = false := beq_eq_false_iff_ne.2 (by omega)
            clear hd1 hi0
            go_wp2
            have s8 : ((i : Int) - 1).toNat = i - 1 := by omega
            have s9 : IntKind.i64.wrap ((i : Int) - 1) = (i : Int) - 1 := IntWalk.i64_in _ (by omega)
            have ownB := HOWN3.out
            go_region_held3 (fun wx => wx.cell? ⟨wr.heap.size, 0, none⟩ = some (.string (sb a.name)) ∧ wx.cell? ⟨wr.heap.size, 1, none⟩ = some (.slice (some ⟨gp, op, none⟩) n2 cp) ∧ wx.cell? ⟨gp, op + (i - 1) * 4, none⟩ = some (.string (sb q.ref)) ∧ wx.cell? ⟨gp, op + (i - 1) * 4 + 1, none⟩ = some (.int .i64 q.lo) ∧ wx.cell? ⟨gp, op + (i - 1) * 4 + 2, none⟩ = some (.int .i64 q.hi))
              (first
                | go_keep
                | (go_split_ands
                   refine ⟨?_, ?_, ?_, ?_, ?_⟩
                   · (rw [hgrowB.cell_far _ (by simp; omega) (Ne.symm neb2)]; assumption)
                   · (rw [hgrowB.cell_far _ (by simp; omega) (Ne.symm neb2)]; assumption)
                   · (rw [hgrowB.cell_far _ (by simp; omega) (Ne.symm nep2)]; assumption)
                   · (rw [hgrowB.cell_far _ (by simp; omega) (Ne.symm nep2)]; assumption)
                   · (rw [hgrowB.cell_far _ (by simp; omega) (Ne.symm nep2)]; assumption)))
              ((refine step_append_lies _ (by rfl) _ _ _ (by rfl) w.heap.size 48 ip (.agg #[.string ⟨#[]⟩, .string ⟨#[]⟩, .int .i64 0, .int .i64 0]) 4 48 Tryz.underlying24 hip hz0 hz1 hz2 rfl (by omega) (.slice (some ⟨gg, 0, none⟩) D.length cap) D.length (hpcells D) (by rfl) ((ownB.alloc _).drew) ⟨w3.heap.size, 0, none⟩ 1 1 [.string (sb a.name), .string (sb q.ref), .int .i64 q.lo, .int .i64 q.hi] (by rfl) (by rfl) (World.news_of_block (cs := #[.string (sb a.name), .string (sb q.ref), .int .i64 q.lo, .int .i64 q.hi]) (t := 48) (fr := (0, 0)) (heap_alloc_new w3 _)) (by simp [Value.oneCell']) (by omega) (by unfold maxLen; omega) (by omega) (by simp; omega) (w3.heap.size + 1) (by simp) ?_; intro ggB capB w3B hown3B hgrowB hatB hlt3B))
            have HBZ := Lib.hid ((((HB3.out.alloc (by omega) _).drew).grown hgrowB (by simp; omega) (fun j hj => (HLT3.out j hj).1)) : Below w.heap.size w w3B)
            have HOZ : Hid (w3B.ownsRow w.heap.size 48 4 (.slice (some ⟨ggB, 0, none⟩) (D.length + 1) capB) (hopsL (L.take (k + 1)) (bl r)).length (hpcells (hopsL (L.take (k + 1)) (bl r)))) := by
              unfold Hid
              rw [HE.out, hpcells_snoc, List.length_append]
              exact hown3B
            clear ownB hown3B hgrowB hatB
            go_wp2
            go_roundw
            case rel => exact ⟨k + 1, hlt, by go_num, HOZ.out, HBZ.out⟩
            case measure => simp [intOf]; omega
          · obtain ⟨gq, oq, cq, hAq, _, z0, z1, z2, z3⟩ := P0.out.at_ h1
            rw [HN2.out] at hAq
            simp only [Value.slice.injEq, Option.some.injEq, Addr.mk.injEq, and_true, true_and] at hAq
            obtain ⟨⟨rfl, rfl⟩, rfl⟩ := hAq
            have t0 := (HB3.out.cell (p := ⟨gp, op + (i - 1) * 4, none⟩) hgp).trans z0
            have t1 := (HB3.out.cell (p := ⟨gp, op + (i - 1) * 4 + 1, none⟩) hgp).trans z1
            have t2 := (HB3.out.cell (p := ⟨gp, op + (i - 1) * 4 + 2, none⟩) hgp).trans z2
            have t3 := (HB3.out.cell (p := ⟨gp, op + (i - 1) * 4 + 3, none⟩) hgp).trans z3
            obtain ⟨q, hq⟩ : ∃ q, a.pts[i - 1] = q := ⟨_, rfl⟩
            rw [hq] at t0 t1 t2 t3 hd1 
            clear z0 z1 z2 z3 hq h1
            have s0 : (0 : Int) < (i : Int) := by omega
            have s1 : (1 : Int) ≤ (i : Int) := by omega
            have s2 : (0 : Int) ≤ (i : Int) - 1 := by omega
            have s3 : (i : Int) - 1 < (n2 : Int) := by omega
            have s4 : (i : Int) < (n2 : Int) + 1 := by omega
            have s5 : (i : Int) ≤ (n2 : Int) := by omega
            have s6 : 1 ≤ i := by omega
            have s7 : 0 < i := by omega
            have e5 : ((q.dir : Int) != 1) = false := bne_eq_false_iff_eq.2 (by omega)
            have e6 : ((q.dir : Int) == 1) = true := beq_iff_eq.2 (by omega)
            clear hd1 hi0
            rw [List.append_nil] at HE
            have HOZ : Hid (w3.ownsRow w.heap.size 48 4 (.slice (some ⟨gg, 0, none⟩) D.length cap) (hopsL (L.take (k + 1)) (bl r)).length (hpcells (hopsL (L.take (k + 1)) (bl r)))) := by
              unfold Hid
              rw [HE.out]
              exact HOWN3.out
            go_wp2
            go_roundw
            case rel => exact ⟨k + 1, hlt, by go_num, HOZ.out, HB3.out⟩
            case measure => simp [intOf]; omega
          · have s0 : (i : Int) ≤ 0 := by omega
            have s1 : (i : Int) < 1 := by omega
            have s2 : i < 1 := by omega
            have HI0 := Lib.hid hi0
            clear hi0
            rw [List.append_nil] at HE
            have HOZ : Hid (w3.ownsRow w.heap.size 48 4 (.slice (some ⟨gg, 0, none⟩) D.length cap) (hopsL (L.take (k + 1)) (bl r)).length (hpcells (hopsL (L.take (k + 1)) (bl r)))) := by
              unfold Hid
              rw [HE.out]
              exact HOWN3.out
            go_wp2
            go_roundw
            case rel => exact ⟨k + 1, hlt, by go_num, HOZ.out, HB3.out⟩
            case measure => simp [intOf]; omega
        · have h1' : i + 1 < n2 := by omega
          obtain ⟨pf, hpf⟩ : ∃ pf, a.pts[i] = pf := ⟨_, rfl⟩
          rw [hpf] at y1 y2 y3 hdF
          clear z0 z1 z2 z3 hpf h1 hFe hBe hn2
          have f1 : (i : Int) + 1 < (n2 : Int) := by omega
          have f2 : (i : Int) < (n2 : Int) - 1 := by omega
          have e3 : ((pf.dir : Int) != 2) = false := bne_eq_false_iff_eq.2 (by omega)
          have e4 : ((pf.dir : Int) == 2) = true := beq_iff_eq.2 (by omega)
          rw [List.append_nil] at HE
          clear hdF hown2
          rcases hB with ⟨h1, hi0, hd1, rfl⟩ | ⟨h1, hi0, hd1, rfl⟩ | ⟨hi0, rfl⟩
          · obtain ⟨gq, oq, cq, hAq, _, z0, z1, z2, z3⟩ := P0.out.at_ h1
            rw [HN2.out] at hAq
            simp only [Value.slice.injEq, Option.some.injEq, Addr.mk.injEq, and_true, true_and] at hAq
            obtain ⟨⟨rfl, rfl⟩, rfl⟩ := hAq
            have t0 := (HB2.out.cell (p := ⟨gp, op + (i - 1) * 4, none⟩) hgp).trans z0
            have t1 := (HB2.out.cell (p := ⟨gp, op + (i - 1) * 4 + 1, none⟩) hgp).trans z1
            have t2 := (HB2.out.cell (p := ⟨gp, op + (i - 1) * 4 + 2, none⟩) hgp).trans z2
            have t3 := (HB2.out.cell (p := ⟨gp, op + (i - 1) * 4 + 3, none⟩) hgp).trans z3
            obtain ⟨q, hq⟩ : ∃ q, a.pts[i - 1] = q := ⟨_, rfl⟩
            rw [hq] at t0 t1 t2 t3 hd1 HE
            clear z0 z1 z2 z3 hq h1
            have s0 : (0 : Int) < (i : Int) := by omega
            have s1 : (1 : Int) ≤ (i : Int) := by omega
            have s2 : (0 : Int) ≤ (i : Int) - 1 := by omega
            have s3 : (i : Int) - 1 < (n2 : Int) := by omega
            have s4 : (i : Int) < (n2 : Int) + 1 := by omega
            have s5 : (i : Int) ≤ (n2 : Int) := by omega
            have s6 : 1 ≤ i := by omega
            have s7 : 0 < i := by omega
            have e5 : ((q.dir : Int) != 1) = true := bne_iff_ne.2 (by omega)
            have e6 : ((q.dir : Int) == 1) = false := beq_eq_false_iff_ne.2 (by omega)
            clear hd1 hi0
            go_wp2
            have s8 : ((i : Int) - 1).toNat = i - 1 := by omega
            have s9 : IntKind.i64.wrap ((i : Int) - 1) = (i : Int) - 1 := IntWalk.i64_in _ (by omega)
            have ownB := HOWN2.out
            go_region_held3 (fun wx => wx.cell? ⟨wr.heap.size, 0, none⟩ = some (.string (sb a.name)) ∧ wx.cell? ⟨wr.heap.size, 1, none⟩ = some (.slice (some ⟨gp, op, none⟩) n2 cp) ∧ wx.cell? ⟨gp, op + (i - 1) * 4, none⟩ = some (.string (sb q.ref)) ∧ wx.cell? ⟨gp, op + (i - 1) * 4 + 1, none⟩ = some (.int .i64 q.lo) ∧ wx.cell? ⟨gp, op + (i - 1) * 4 + 2, none⟩ = some (.int .i64 q.hi))
              (first
                | go_keep
                | (go_split_ands
                   refine ⟨?_, ?_, ?_, ?_, ?_⟩
                   · (rw [hgrowB.cell_far _ (by simp; omega) (Ne.symm neb)]; assumption)
                   · (rw [hgrowB.cell_far _ (by simp; omega) (Ne.symm neb)]; assumption)
                   · (rw [hgrowB.cell_far _ (by simp; omega) (Ne.symm nep)]; assumption)
                   · (rw [hgrowB.cell_far _ (by simp; omega) (Ne.symm nep)]; assumption)
                   · (rw [hgrowB.cell_far _ (by simp; omega) (Ne.symm nep)]; assumption)))
              ((refine step_append_lies _ (by rfl) _ _ _ (by rfl) w.heap.size 48 ip (.agg #[.string ⟨#[]⟩, .string ⟨#[]⟩, .int .i64 0, .int .i64 0]) 4 48 Tryz.underlying24 hip hz0 hz1 hz2 rfl (by omega) u5 done.length (hpcells done) (by rfl) ((ownB.alloc _).drew) ⟨w2.heap.size, 0, none⟩ 1 1 [.string (sb a.name), .string (sb q.ref), .int .i64 q.lo, .int .i64 q.hi] (by rfl) (by rfl) (World.news_of_block (cs := #[.string (sb a.name), .string (sb q.ref), .int .i64 q.lo, .int .i64 q.hi]) (t := 48) (fr := (0, 0)) (heap_alloc_new w2 _)) (by simp [Value.oneCell']) (by omega) (by unfold maxLen; omega) (by omega) (by simp; omega) (w2.heap.size + 1) (by simp) ?_; intro ggB capB w3B hown3B hgrowB hatB hlt3B))
            have HBZ := Lib.hid ((((HB2.out.alloc (by omega) _).drew).grown hgrowB (by simp; omega) (fun j hj => (HLT2.out j hj).1)) : Below w.heap.size w w3B)
            have HOZ : Hid (w3B.ownsRow w.heap.size 48 4 (.slice (some ⟨ggB, 0, none⟩) (done.length + 1) capB) (hopsL (L.take (k + 1)) (bl r)).length (hpcells (hopsL (L.take (k + 1)) (bl r)))) := by
              unfold Hid
              rw [HE.out, hpcells_snoc, List.length_append]
              exact hown3B
            clear ownB hown3B hgrowB hatB
            go_wp2
            go_roundw
            case rel => exact ⟨k + 1, hlt, by go_num, HOZ.out, HBZ.out⟩
            case measure => simp [intOf]; omega
          · obtain ⟨gq, oq, cq, hAq, _, z0, z1, z2, z3⟩ := P0.out.at_ h1
            rw [HN2.out] at hAq
            simp only [Value.slice.injEq, Option.some.injEq, Addr.mk.injEq, and_true, true_and] at hAq
            obtain ⟨⟨rfl, rfl⟩, rfl⟩ := hAq
            have t0 := (HB2.out.cell (p := ⟨gp, op + (i - 1) * 4, none⟩) hgp).trans z0
            have t1 := (HB2.out.cell (p := ⟨gp, op + (i - 1) * 4 + 1, none⟩) hgp).trans z1
            have t2 := (HB2.out.cell (p := ⟨gp, op + (i - 1) * 4 + 2, none⟩) hgp).trans z2
            have t3 := (HB2.out.cell (p := ⟨gp, op + (i - 1) * 4 + 3, none⟩) hgp).trans z3
            obtain ⟨q, hq⟩ : ∃ q, a.pts[i - 1] = q := ⟨_, rfl⟩
            rw [hq] at t0 t1 t2 t3 hd1 
            clear z0 z1 z2 z3 hq h1
            have s0 : (0 : Int) < (i : Int) := by omega
            have s1 : (1 : Int) ≤ (i : Int) := by omega
            have s2 : (0 : Int) ≤ (i : Int) - 1 := by omega
            have s3 : (i : Int) - 1 < (n2 : Int) := by omega
            have s4 : (i : Int) < (n2 : Int) + 1 := by omega
            have s5 : (i : Int) ≤ (n2 : Int) := by omega
            have s6 : 1 ≤ i := by omega
            have s7 : 0 < i := by omega
            have e5 : ((q.dir : Int) != 1) = false := bne_eq_false_iff_eq.2 (by omega)
            have e6 : ((q.dir : Int) == 1) = true := beq_iff_eq.2 (by omega)
            clear hd1 hi0
            rw [List.append_nil] at HE
            have HOZ : Hid (w2.ownsRow w.heap.size 48 4 u5 (hopsL (L.take (k + 1)) (bl r)).length (hpcells (hopsL (L.take (k + 1)) (bl r)))) := by
              unfold Hid
              rw [HE.out]
              exact HOWN2.out
            go_wp2
            go_roundw
            case rel => exact ⟨k + 1, hlt, by go_num, HOZ.out, HB2.out⟩
            case measure => simp [intOf]; omega
          · have s0 : (i : Int) ≤ 0 := by omega
            have s1 : (i : Int) < 1 := by omega
            have s2 : i < 1 := by omega
            have HI0 := Lib.hid hi0
            clear hi0
            rw [List.append_nil] at HE
            have HOZ : Hid (w2.ownsRow w.heap.size 48 4 u5 (hopsL (L.take (k + 1)) (bl r)).length (hpcells (hopsL (L.take (k + 1)) (bl r)))) := by
              unfold Hid
              rw [HE.out]
              exact HOWN2.out
            go_wp2
            go_roundw
            case rel => exact ⟨k + 1, hlt, by go_num, HOZ.out, HB2.out⟩
            case measure => simp [intOf]; omega
        · have f1 : (n2 : Int) ≤ (i : Int) + 1 := by omega
          have f2 : (n2 : Int) - 1 ≤ (i : Int) := by omega
          rw [List.append_nil] at HE
          clear z0 z1 z2 z3 h1 hFe hBe hn2 hown2
          rcases hB with ⟨h1, hi0, hd1, rfl⟩ | ⟨h1, hi0, hd1, rfl⟩ | ⟨hi0, rfl⟩
          · obtain ⟨gq, oq, cq, hAq, _, z0, z1, z2, z3⟩ := P0.out.at_ h1
            rw [HN2.out] at hAq
            simp only [Value.slice.injEq, Option.some.injEq, Addr.mk.injEq, and_true, true_and] at hAq
            obtain ⟨⟨rfl, rfl⟩, rfl⟩ := hAq
            have t0 := (HB2.out.cell (p := ⟨gp, op + (i - 1) * 4, none⟩) hgp).trans z0
            have t1 := (HB2.out.cell (p := ⟨gp, op + (i - 1) * 4 + 1, none⟩) hgp).trans z1
            have t2 := (HB2.out.cell (p := ⟨gp, op + (i - 1) * 4 + 2, none⟩) hgp).trans z2
            have t3 := (HB2.out.cell (p := ⟨gp, op + (i - 1) * 4 + 3, none⟩) hgp).trans z3
            obtain ⟨q, hq⟩ : ∃ q, a.pts[i - 1] = q := ⟨_, rfl⟩
            rw [hq] at t0 t1 t2 t3 hd1 HE
            clear z0 z1 z2 z3 hq h1
            have s0 : (0 : Int) < (i : Int) := by omega
            have s1 : (1 : Int) ≤ (i : Int) := by omega
            have s2 : (0 : Int) ≤ (i : Int) - 1 := by omega
            have s3 : (i : Int) - 1 < (n2 : Int) := by omega
            have s4 : (i : Int) < (n2 : Int) + 1 := by omega
            have s5 : (i : Int) ≤ (n2 : Int) := by omega
            have s6 : 1 ≤ i := by omega
            have s7 : 0 < i := by omega
            have e5 : ((q.dir : Int) != 1) = true := bne_iff_ne.2 (by omega)
            have e6 : ((q.dir : Int) == 1) = false := beq_eq_false_iff_ne.2 (by omega)
            clear hd1 hi0
            go_wp2
            have s8 : ((i : Int) - 1).toNat = i - 1 := by omega
            have s9 : IntKind.i64.wrap ((i : Int) - 1) = (i : Int) - 1 := IntWalk.i64_in _ (by omega)
            have ownB := HOWN2.out
            go_region_held3 (fun wx => wx.cell? ⟨wr.heap.size, 0, none⟩ = some (.string (sb a.name)) ∧ wx.cell? ⟨wr.heap.size, 1, none⟩ = some (.slice (some ⟨gp, op, none⟩) n2 cp) ∧ wx.cell? ⟨gp, op + (i - 1) * 4, none⟩ = some (.string (sb q.ref)) ∧ wx.cell? ⟨gp, op + (i - 1) * 4 + 1, none⟩ = some (.int .i64 q.lo) ∧ wx.cell? ⟨gp, op + (i - 1) * 4 + 2, none⟩ = some (.int .i64 q.hi))
              (first
                | go_keep
                | (go_split_ands
                   refine ⟨?_, ?_, ?_, ?_, ?_⟩
                   · (rw [hgrowB.cell_far _ (by simp; omega) (Ne.symm neb)]; assumption)
                   · (rw [hgrowB.cell_far _ (by simp; omega) (Ne.symm neb)]; assumption)
                   · (rw [hgrowB.cell_far _ (by simp; omega) (Ne.symm nep)]; assumption)
                   · (rw [hgrowB.cell_far _ (by simp; omega) (Ne.symm nep)]; assumption)
                   · (rw [hgrowB.cell_far _ (by simp; omega) (Ne.symm nep)]; assumption)))
              ((refine step_append_lies _ (by rfl) _ _ _ (by rfl) w.heap.size 48 ip (.agg #[.string ⟨#[]⟩, .string ⟨#[]⟩, .int .i64 0, .int .i64 0]) 4 48 Tryz.underlying24 hip hz0 hz1 hz2 rfl (by omega) u5 done.length (hpcells done) (by rfl) ((ownB.alloc _).drew) ⟨w2.heap.size, 0, none⟩ 1 1 [.string (sb a.name), .string (sb q.ref), .int .i64 q.lo, .int .i64 q.hi] (by rfl) (by rfl) (World.news_of_block (cs := #[.string (sb a.name), .string (sb q.ref), .int .i64 q.lo, .int .i64 q.hi]) (t := 48) (fr := (0, 0)) (heap_alloc_new w2 _)) (by simp [Value.oneCell']) (by omega) (by unfold maxLen; omega) (by omega) (by simp; omega) (w2.heap.size + 1) (by simp) ?_; intro ggB capB w3B hown3B hgrowB hatB hlt3B))
            have HBZ := Lib.hid ((((HB2.out.alloc (by omega) _).drew).grown hgrowB (by simp; omega) (fun j hj => (HLT2.out j hj).1)) : Below w.heap.size w w3B)
            have HOZ : Hid (w3B.ownsRow w.heap.size 48 4 (.slice (some ⟨ggB, 0, none⟩) (done.length + 1) capB) (hopsL (L.take (k + 1)) (bl r)).length (hpcells (hopsL (L.take (k + 1)) (bl r)))) := by
              unfold Hid
              rw [HE.out, hpcells_snoc, List.length_append]
              exact hown3B
            clear ownB hown3B hgrowB hatB
            go_wp2
            go_roundw
            case rel => exact ⟨k + 1, hlt, by go_num, HOZ.out, HBZ.out⟩
            case measure => simp [intOf]; omega
          · obtain ⟨gq, oq, cq, hAq, _, z0, z1, z2, z3⟩ := P0.out.at_ h1
            rw [HN2.out] at hAq
            simp only [Value.slice.injEq, Option.some.injEq, Addr.mk.injEq, and_true, true_and] at hAq
            obtain ⟨⟨rfl, rfl⟩, rfl⟩ := hAq
            have t0 := (HB2.out.cell (p := ⟨gp, op + (i - 1) * 4, none⟩) hgp).trans z0
            have t1 := (HB2.out.cell (p := ⟨gp, op + (i - 1) * 4 + 1, none⟩) hgp).trans z1
            have t2 := (HB2.out.cell (p := ⟨gp, op + (i - 1) * 4 + 2, none⟩) hgp).trans z2
            have t3 := (HB2.out.cell (p := ⟨gp, op + (i - 1) * 4 + 3, none⟩) hgp).trans z3
            obtain ⟨q, hq⟩ : ∃ q, a.pts[i - 1] = q := ⟨_, rfl⟩
            rw [hq] at t0 t1 t2 t3 hd1 
            clear z0 z1 z2 z3 hq h1
            have s0 : (0 : Int) < (i : Int) := by omega
            have s1 : (1 : Int) ≤ (i : Int) := by omega
            have s2 : (0 : Int) ≤ (i : Int) - 1 := by omega
            have s3 : (i : Int) - 1 < (n2 : Int) := by omega
            have s4 : (i : Int) < (n2 : Int) + 1 := by omega
            have s5 : (i : Int) ≤ (n2 : Int) := by omega
            have s6 : 1 ≤ i := by omega
            have s7 : 0 < i := by omega
            have e5 : ((q.dir : Int) != 1) = false := bne_eq_false_iff_eq.2 (by omega)
            have e6 : ((q.dir : Int) == 1) = true := beq_iff_eq.2 (by omega)
            clear hd1 hi0
            rw [List.append_nil] at HE
            have HOZ : Hid (w2.ownsRow w.heap.size 48 4 u5 (hopsL (L.take (k + 1)) (bl r)).length (hpcells (hopsL (L.take (k + 1)) (bl r)))) := by
              unfold Hid
              rw [HE.out]
              exact HOWN2.out
            go_wp2
            go_roundw
            case rel => exact ⟨k + 1, hlt, by go_num, HOZ.out, HB2.out⟩
            case measure => simp [intOf]; omega
          · have s0 : (i : Int) ≤ 0 := by omega
            have s1 : (i : Int) < 1 := by omega
            have s2 : i < 1 := by omega
            have HI0 := Lib.hid hi0
            clear hi0
            rw [List.append_nil] at HE
            have HOZ : Hid (w2.ownsRow w.heap.size 48 4 u5 (hopsL (L.take (k + 1)) (bl r)).length (hpcells (hopsL (L.take (k + 1)) (bl r)))) := by
              unfold Hid
              rw [HE.out]
              exact HOWN2.out
            go_wp2
            go_roundw
            case rel => exact ⟨k + 1, hlt, by go_num, HOZ.out, HB2.out⟩
            case measure => simp [intOf]; omega
    · have HF : Hid (L.take k = L) := List.take_of_length_le (by have := HN.out; omega)
      rw [HF.out] at hown
      have hrd := Lib.hid (hpsR_own hown)
      clear hown
      go_wp2
      go_ret
      exact ⟨_, rfl, hrd.out, hbr⟩
end Go.Proofs.YtgnnblkpjankgaaGreatDoor
