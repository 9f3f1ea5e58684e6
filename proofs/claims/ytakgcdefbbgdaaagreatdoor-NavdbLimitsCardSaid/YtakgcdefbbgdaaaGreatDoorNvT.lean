/-
  Contract: the records of an airway are taken by the compiler.
-/
import Derived.Test.YtakgcdefbbgdaaaGreatDoorMG22
namespace Go.Proofs.YtakgcdefbbgdaaaGreatDoor
open Go.RowKit
set_option linter.unusedVariables false
set_option linter.unusedSimpArgs false
theorem infoEl : (Tryz.prog.info? 77).map (fun i => (i.zero, i.size, i.bytes)) = some (some (.agg #[.int .u8 0, .int .i64 0, .slice none 0 0, .string ⟨#[]⟩, .string ⟨#[]⟩, .int .u8 0, .int .i64 0, .int .i64 0, .int .i64 0, .int .i64 0, .string ⟨#[]⟩, .slice none 0 0, .slice none 0 0, .string ⟨#[]⟩, .string ⟨#[]⟩, .int .u8 0, .slice none 0 0, .slice none 0 0, .slice none 0 0]), 19, 288) := by kernel_rfl
/-- a compiler whose list of elements is its own -/
structure CpW (w0 : World) (B : Nat) (lv : Value) (s : Cp) (bv av : Value) (L : List (El × EV)) (w : World) : Prop where
  r : CpR w0 B lv s bv av L w
  own : w.ownsRow B 77 19 av s.all.length (elcells L)
theorem CpW.below {w0 : World} {B : Nat} {lv : Value} {s : Cp} {bv av : Value} {L : List (El × EV)} {w w' : World} (h : CpW w0 B lv s bv av L w) (hb : Below w.heap.size w w') : CpW w0 B lv s bv av L w' := ⟨h.r.below hb, own_below h.own hb⟩
theorem CpW.put {w0 : World} {B : Nat} {lv : Value} {s : Cp} {bv av : Value} {L : List (El × EV)} {w : World} (h : CpW w0 B lv s bv av L w) (j : Nat) (u : Value) (s' : Cp) (hs : cpC lv bv av s' = (cpC lv bv av s).setIfInBounds j u) (hb : s'.bad = s.bad) (ha : s'.all = s.all) :
    CpW w0 B lv s' bv av L (w.setCell ⟨w0.heap.size, j, none⟩ u) := ⟨h.r.put j u s' hs hb ha, by rw [ha]; exact own_set h.own h.r.lo u⟩
/-- what is written: the compiler's own block, and what is younger than its rows' base -/
def SB (w0 : World) (B : Nat) (k : Nat) : Prop := k = w0.heap.size ∨ B ≤ k
theorem SB.of_bad {w0 : World} {B : Nat} {lv : Value} {s : Cp} {bv av : Value} {L : List (El × EV)} {w w' : World} (h : CpR w0 B lv s bv av L w) (hf : Frm (SBad w0 bv) w w') : Frm (SB w0 B) w w' :=
  hf.mono fun k hk => hk.elim .inl fun e => .inr (h.bad.lt k e).1
/-- an element more -/
theorem CpW.push {w0 : World} {B : Nat} {lv : Value} {s s' : Cp} {bv av v' : Value} {L : List (El × EV)} {w wa w3 : World} {p : El × EV} (h : CpW w0 B lv s bv av L w) (hba : Below w.heap.size w wa)
    (hown : w3.ownsRow B 77 19 v' (s.all.length + 1) (elcells L ++ elc p)) (hg : wa.grownBy w3 av.ownBlock) (hs : s' = { s with all := s.all ++ [p.1] }) (hp : ElIn w0 wa p) :
    CpW w0 B lv s' bv v' (L ++ [p]) (w3.setCell ⟨w0.heap.size, 8, none⟩ v') ∧ Frm (SB w0 B) w (w3.setCell ⟨w0.heap.size, 8, none⟩ v') := by
  have hlt := h.own.lt
  have l0 := h.r.lt
  have lo := h.r.lo
  have hsz := hba.size
  have hA := h.r.below hba
  have hoth : ∀ k, k ≠ w0.heap.size → (w3.setCell ⟨w0.heap.size, 8, none⟩ v').heap[k]? = w3.heap[k]? := fun k hk => heap_setCell_other w3 ⟨w0.heap.size, 8, none⟩ k v' (fun e => hk (by simpa using e))
  have hkeep : ∀ k, k < wa.heap.size → av.ownBlock ≠ some k → w3.heap[k]? = wa.heap[k]? := fun k hk hk2 => hg.block k hk (by intro e; exact hk2 e.symm)
  have hn0 : av.ownBlock ≠ some w0.heap.size := fun e => by have := (hlt _ e).1; omega
  have F : Frm (fun k => k = w0.heap.size ∨ av.ownBlock = some k) wa (w3.setCell ⟨w0.heap.size, 8, none⟩ v') :=
    ⟨hg.os, hg.tape, hg.output, by simpa using hg.size, fun k hk hn => (hoth k (fun e => hn (.inl e))).trans (hkeep k hk (fun e => hn (.inr e)))⟩
  have hty : ∀ (k : Nat) cur t z, wa.heap[k]? = some (.cells cur t z) → t ≠ 60 → t ≠ 77 → ¬ (k = w0.heap.size ∨ av.ownBlock = some k) := fun k cur t z hh h1 h2 e => by
    rcases e with e | e
    · rw [e, hA.bx] at hh
      simp only [Option.some.injEq, Obj.cells.injEq] at hh
      exact h1 hh.2.1.symm
    · obtain ⟨cur', e', z', hh', he'⟩ := own_block (own_below h.own hba) k e
      rw [hh'] at hh
      simp only [Option.some.injEq, Obj.cells.injEq] at hh
      exact h2 (by rw [← hh.2.1, he'])
  have hlow : ∀ k, (k = w0.heap.size ∨ av.ownBlock = some k) → w0.heap.size ≤ k := fun k hk => by
    rcases hk with rfl | hk
    · exact Nat.le_refl _
    · have := (hlt _ hk).1; omega
  subst hs
  have hlen : (s.all ++ [p.1]).length = s.all.length + 1 := by simp
  have hown' : (w3.setCell ⟨w0.heap.size, 8, none⟩ v').ownsRow B 77 19 v' (s.all ++ [p.1]).length (elcells (L ++ [p])) := by
    rw [hlen, elcells_snoc]; exact own_set hown lo v'
  refine ⟨⟨⟨?_, own_frm hA.bad F (fun k cur z hh => hty k cur _ z hh (by decide) (by decide)), RdT.of_own hown', by rw [List.map_append, h.r.eq]; rfl, hA.be.trans (F.below (by omega) hlow), fun q hq => ?_, lo, ?_⟩, hown'⟩, ?_⟩
  · exact ((hkeep _ (by omega) hn0).trans hA.bx : w3.heap[w0.heap.size]? = _) |> fun e => heap_setCell_same w3 w0.heap.size 8 _ _ _ e
  · rw [List.mem_append, List.mem_singleton] at hq
    rcases hq with hq | rfl
    · exact (hA.el q hq).frm F (fun k cur z hh => hty k cur _ z hh (by decide) (by decide))
    · exact hp.frm F (fun k cur z hh => hty k cur _ z hh (by decide) (by decide))
  · exact Nat.le_trans hA.hi F.size
  · refine (Frm.of_below hba).trans (F.mono fun k hk => hk.elim .inl fun e => .inr (hlt k e).1)
/-! ### records in a row of one's own -/
def lcells (L : List Ln) (F : List Value) : List Value := (L.zip F).flatMap fun p => [.int .i64 p.1.1, p.2]
theorem lcells_len : ∀ (L : List Ln) (F : List Value), F.length = L.length → (lcells L F).length = L.length * 2
  | [], F, _ => rfl
  | x :: L, [], h => by simp at h
  | x :: L, f :: F, h => by
    have := lcells_len L F (by simpa using h)
    unfold lcells at *
    rw [List.zip_cons_cons, List.flatMap_cons, List.length_append, this, List.length_cons]
    simp; omega
theorem lcells_at : ∀ (L : List Ln) (F : List Value) (hl : F.length = L.length) (k : Nat) (h : k < L.length), (lcells L F)[k * 2]? = some (.int .i64 L[k].1) ∧ (lcells L F)[k * 2 + 1]? = some (F[k]'(by omega))
  | [], F, _, k, h => by simp at h
  | x :: L, [], hl, k, h => by simp at hl
  | x :: L, f :: F, hl, k, h => by
    have e : lcells (x :: L) (f :: F) = .int .i64 x.1 :: f :: lcells L F := rfl
    rw [e]
    cases k with
    | zero => exact ⟨rfl, rfl⟩
    | succ k =>
      have := lcells_at L F (by simpa using hl) k (by simpa using h)
      rw [show (k + 1) * 2 = k * 2 + 1 + 1 by omega]
      simpa using this
theorem lns_cells {w : World} {g o c : Nat} {L : List Ln} (h : LnsR w (.slice (some ⟨g, o, none⟩) L.length c) L) :
    ∃ F : List Value, F.length = L.length ∧ (∀ k (hk : k < L.length) (h2 : k < F.length), FsR w w.heap.size F[k] L[k].2) ∧ ∀ j u, (lcells L F)[j]? = some u → w.cell? ⟨g, o + j, none⟩ = some u := by
  obtain ⟨A, c', hv, hc, hm, hok, hr⟩ := h
  simp only [Value.slice.injEq, true_and] at hv
  obtain ⟨rfl, rfl⟩ := hv
  have key : ∀ k (hk : k < L.length), ∃ fv, w.cell? ⟨g, o + k * 2, none⟩ = some (.int .i64 L[k].1) ∧ w.cell? ⟨g, o + k * 2 + 1, none⟩ = some fv ∧ FsR w w.heap.size fv L[k].2 := fun k hk => by
    obtain ⟨g', o', hA, hg, hx⟩ := hr (by omega)
    simp only [Option.some.injEq, Addr.mk.injEq, and_true] at hA
    obtain ⟨rfl, rfl⟩ := hA
    exact hx k hk
  refine ⟨List.ofFn fun k : Fin L.length => Classical.choose (key k.1 k.2), by simp, fun k hk h2 => ?_, fun j u hu => ?_⟩
  · rw [List.getElem_ofFn]; exact (Classical.choose_spec (key k hk)).2.2
  · have hj : j < L.length * 2 := by
      rw [← lcells_len L (List.ofFn fun k : Fin L.length => Classical.choose (key k.1 k.2)) (by simp)]
      exact (List.getElem?_eq_some_iff.1 hu).1
    obtain ⟨a0, a1⟩ := lcells_at L (List.ofFn fun k : Fin L.length => Classical.choose (key k.1 k.2)) (by simp) (j / 2) (by omega)
    have h2 := Classical.choose_spec (key (j / 2) (by omega))
    rw [List.getElem_ofFn] at a1
    rcases Nat.mod_two_eq_zero_or_one j with e | e
    · have ej : j = j / 2 * 2 := by omega
      rw [ej, a0] at hu
      rw [ej, h2.1]; exact hu
    · have ej : j = j / 2 * 2 + 1 := by omega
      rw [ej, a1] at hu
      rw [ej, ← Nat.add_assoc, h2.2.1]; exact hu
theorem lns_own {w : World} {base : Nat} {v : Value} {L : List Ln} {F : List Value} (h : w.ownsRow base 64 2 v L.length (lcells L F)) (hl : F.length = L.length) (hok : ∀ x ∈ L, LnOk x) (hf : ∀ k (hk : k < L.length) (h2 : k < F.length), FsR w w.heap.size F[k] L[k].2) : LnsR w v L := by
  obtain ⟨_, A, c, rfl, hc, hm, hr⟩ := Rd.of_own h
  refine ⟨A, c, rfl, hc, hm, hok, fun h0 => ?_⟩
  obtain ⟨g, o, rfl, hg, hx⟩ := hr h0
  refine ⟨g, o, rfl, hg, fun k hk => ⟨F[k]'(by omega), ?_, ?_, hf k hk _⟩⟩
  · exact hx _ _ (lcells_at L F hl k hk).1
  · have := hx _ _ (lcells_at L F hl k hk).2
    rwa [← Nat.add_assoc] at this
/-! ### the records of an airway -/
def takeEl (x : Ln) (V : List Ln) : El := ⟨97, x, fx0, (takeO (x :: V)).nm, (takeO (x :: V)).pts, V⟩
theorem ptsGo_nm (nm : List UInt8) (l0 c0 : Int) : ∀ (r : List Ln) (done : List Pt), (ptsGo nm l0 c0 done r).nm = nm ∨ (ptsGo nm l0 c0 done r).nm = []
  | [], done => by unfold ptsGo; split; exact .inl rfl; exact .inr rfl
  | x :: r, done => by unfold ptsGo; split; exact .inr rfl; exact ptsGo_nm nm l0 c0 r _
theorem takeO_nm {x : Ln} {V : List Ln} (h : LnOk x) : (takeO (x :: V)).nm.length ≤ 140737488351232 := by
  have e : takeO (x :: V) = if (hd2 x).endB then tkBad (hd2 x) else ptsGo (hdNm x) x.1 (fld x.2 0).2 [] V := rfl
  have hn : (hdNm x).length ≤ 140737488351232 := by
    unfold hdNm Sc.tv nameSV
    split
    · split
      · exact LnOk.text (by rw [hd1_fs]; exact h.2)
      · simp
    · simp
  rw [e]
  split
  · exact Nat.zero_le _
  · rcases ptsGo_nm (hdNm x) x.1 (fld x.2 0).2 V [] with e1 | e1
    · rw [e1]; exact hn
    · rw [e1]; simp
set_option maxRecDepth 100000 in
set_option maxHeartbeats 8000000 in
theorem ctake_any (w0 : World) (B : Nat) (lv : Value) (s : Cp) (bv av : Value) (L : List (El × EV)) (x : Ln) (fv : Value) (g o c : Nat) (V : List Ln) (w : World) (E : Env w0) (h : CpW w0 B lv s bv av L w) (hf : FsR w0 w0.heap.size fv x.2) (h0 : 0 < x.2.length) (hok : LnOk x)
    (hv : LnsR w0 (.slice (some ⟨g, o, none⟩) V.length c) V) (hN : V.length ≤ 1000000) (hn : s.all.length ≤ 1000000) (hgd : (takeO (x :: V)).bad = false) :
    Calls Tryz.prog 47 #[.pointer (some ⟨w0.heap.size, 0, none⟩), .agg #[.int .i64 x.1, fv], .slice (some ⟨g, o, none⟩) V.length c] w
      fun e w' => e = .returned (.tuple #[]) ∧ ∃ av' ev, CpW w0 B lv { s with all := s.all ++ [takeEl x V] } bv av' (L ++ [(takeEl x V, ev)]) w' ∧ Frm (SB w0 B) w w' := by
  obtain ⟨ie, hie, hy0, hy1, hy2⟩ := info_parts infoEl
  obtain ⟨il, hil, hz0, hz1, hz2⟩ := info_parts infoLine
  obtain ⟨F, hFl, hFf, hFc⟩ := lns_cells hv
  obtain ⟨A, cf, rfl, hcf, hmf⟩ := fld_le hf
  obtain ⟨Av, c1, hvv, hc, hcm⟩ := hv.form
  simp only [Value.slice.injEq, true_and] at hvv
  obtain ⟨rfl, rfl⟩ := hvv
  unfold maxLen at hcm
  obtain ⟨fl, hfl⟩ : ∃ f, x.2.length = f := ⟨_, rfl⟩
  obtain ⟨xn, hxn⟩ : ∃ n, x.1 = n := ⟨_, rfl⟩
  obtain ⟨m, hm⟩ : ∃ m, V.length = m := ⟨_, rfl⟩
  obtain ⟨fv, hfv⟩ : ∃ v, Value.slice A x.2.length cf = v := ⟨_, rfl⟩
  have hfv2 : Value.slice A fl cf = fv := by rw [← hfl]; exact hfv
  have HFS : Hid (FsR w0 w0.heap.size fv x.2) := by rw [← hfv]; exact hf
  have HV := Lib.hid hv
  have HGD := Lib.hid hgd
  have HOK := Lib.hid hok
  have H0 := Lib.hid h0
  have H := Lib.hid h
  have HFL := Lib.hid hFl
  have HFF := Lib.hid hFf
  have HM := Lib.hid hm
  have HXN := Lib.hid hxn
  have HCL : Hid ((lcells V F).length = m * 2) := by unfold Hid; rw [lcells_len V F hFl, hm]
  have HC5 : Hid (∀ u ∈ lcells V F, u.oneCell' = true) := by
    intro u hu
    unfold lcells at hu
    obtain ⟨p, hp1, hp⟩ := List.mem_flatMap.mp hu
    have hp2 : ∃ A n c, p.2 = .slice A n c := by
      obtain ⟨k, hk, he⟩ := List.mem_iff_getElem.1 hp1
      have hk2 : k < V.length := by rw [List.length_zip] at hk; omega
      obtain ⟨A', c', hv', _⟩ := hFf k hk2 (by omega)
      rw [List.getElem_zip] at he
      rw [← he]; exact ⟨_, _, _, hv'⟩
    obtain ⟨A', n', c', hp2⟩ := hp2
    rw [hp2] at hp
    simp at hp
    rcases hp with rfl | rfl <;> rfl
  have hlt := h.r.lt
  rw [hfl, hxn, hm]
  rw [hm] at hc hN
  obtain ⟨WB, hWB⟩ : ∃ W, (w.alloc (.cells #[.int .i64 xn, .slice A fl cf] 64)).alloc (.cells #[.int .i64 xn, .slice A fl cf] 64) = W := ⟨_, rfl⟩
  have BB : Hid (Below w.heap.size w WB) := by rw [← hWB]; exact ((Below.refl _ _).alloc (Nat.le_refl _) _).alloc (by simp) _
  have HLIT : Hid (WB.ownsRow w.heap.size 64 2 (.slice (some ⟨w.heap.size + 1, 0, none⟩) 1 1) 1 [.int .i64 xn, fv]) := by
    have := World.ownsRow_lit (base := w.heap.size) (e := 64) (size := 2) (w.alloc (.cells #[.int .i64 xn, .slice A fl cf] 64)) #[.int .i64 xn, .slice A fl cf] 1 (by simp) (by unfold maxLen; omega) rfl
    rw [World.size_alloc, hWB] at this
    rw [← hfv2]
    exact this
  have XB : Hid (Bx w.heap.size #[.int .i64 xn, .slice A fl cf] 64 WB) := by rw [← hWB]; exact (Bx.last w _ _).grow _
  have HX : Hid (∀ j u, (lcells V F)[j]? = some u → WB.cell? ((⟨g, o, none⟩ : Addr).add j) = some u) := by
    intro j u hu
    have h2 := hFc j u hu
    have h3 := ((Below.then_ H.out.r.be BB.out).cell (p := ⟨g, o + j, none⟩) (cell_lt h2)).trans h2
    simp only [Addr.add]
    split
    · rename_i hj0
      rw [hj0] at h3
      exact h3
    · exact h3
  have hs1 : (w.alloc (.cells #[.int .i64 xn, .slice A fl cf] 64)).heap.size = w.heap.size + 1 := World.size_alloc _ _
  have hBs : WB.heap.size = w.heap.size + 1 + 1 := by rw [← hWB, World.size_alloc, hs1]
  have HBs := Lib.hid hBs
  have HWB := Lib.hid hWB
  have HFV2 := Lib.hid hfv2
  clear hWB hs1 hBs hfv hfv2 hv hgd hok h0 h hFl hFf hFc hm hxn hf hfl
  go_enter Tryz.func47, Tryz.ntmps47
  have HLIT' := HLIT.out
  have HX' := HX.out
  have HBs' := HBs.out
  rw [← HWB.out] at HLIT' HX' HBs'
  have HLIT2 := Lib.hid HLIT'
  have HX2 := Lib.hid HX'
  have HBs2 := Lib.hid HBs'
  clear HLIT' HX' HBs'
  go_wp2_with (at_builtin; (refine wpList_append_own _ rfl _ _ 54 rfl w.heap.size 64 il (.agg #[.int .i64 0, .slice none 0 0]) 2 32 Tryz.underlying54 hil hz0 hz1 hz2 rfl (by decide) _ _ _ rfl HLIT2.out ⟨g, o, none⟩ m c (lcells V F) rfl HCL.out HX2.out HC5.out ?c3 ?c4 ?c5 ?_))
  case c3 => unfold maxLen; omega
  case c4 => omega
  case c5 => rw [HBs2.out]; omega
  intro v' w1 hown' hgrow _
  rw [HWB.out] at hgrow
  obtain ⟨A', c', rfl, hc1, hc2⟩ := (Rd.of_own hown').form
  have HB1 : Hid (Below w.heap.size w w1) := BB.out.grown hgrow BB.out.size (fun k hk => by simp [Value.ownBlock] at hk; omega)
  have X1 : Hid (Bx w.heap.size #[.int .i64 xn, .slice A fl cf] 64 w1) := (hgrow.block _ XB.out.lt (by simp [Value.ownBlock])).trans XB.out
  have HBE := Lib.hid (Below.then_ H.out.r.be HB1.out)
  have HL1 : Hid (LnsR w1 (.slice A' (1 + m) c') (x :: V)) := by
    have hx1 := HXN.out
    have hm1 := HM.out
    subst hx1 hm1
    refine lns_own (base := w.heap.size) (F := fv :: F) ?_ (by rw [List.length_cons, List.length_cons, HFL.out]) (fun y hy => ?_) (fun k hk h2 => ?_)
    · rw [List.length_cons, Nat.add_comm V.length 1]; exact hown'
    · rcases List.mem_cons.1 hy with rfl | hy
      · exact HOK.out
      · obtain ⟨_, _, _, _, _, hok, _⟩ := HV.out
        exact hok y hy
    · cases k with
      | zero => exact (HFS.out.keep fun i hi => HBE.out.block i hi).mono HBE.out.size
      | succ k =>
        have hk2 : k < V.length := by simpa using hk
        have := HFF.out k hk2 (by rw [HFL.out]; exact hk2)
        exact (this.keep fun i hi => HBE.out.block i hi).mono HBE.out.size
  have E1 := E.below HBE.out
  have HLN : Hid ((x :: V).length ≤ 4398046511104) := by unfold Hid; rw [List.length_cons, HM.out]; omega
  clear hown' hgrow HLIT HLIT2 HX HX2 HBs HBs2 HWB XB BB HC5 HCL
  go_wp2_with fail
  refine (take15_any _ (x :: V) _ E1 HL1.out HLN.out).mono ?_
  rintro e w2 ⟨pv, rfl, hpts, hb2⟩
  rw [HGD.out]
  have HPT := Lib.hid hpts
  obtain ⟨Ap, cp, rfl, hcp1, hcp2⟩ := hpts.pts.form
  unfold maxLen at hcp2
  obtain ⟨nm, hnm⟩ : ∃ n, (takeO (x :: V)).nm = n := ⟨_, rfl⟩
  obtain ⟨pn, hpn⟩ : ∃ n, (takeO (x :: V)).pts.length = n := ⟨_, rfl⟩
  obtain ⟨dl, hdl⟩ : ∃ n, (takeO (x :: V)).dl = n := ⟨_, rfl⟩
  obtain ⟨dc, hdc⟩ : ∃ n, (takeO (x :: V)).dc = n := ⟨_, rfl⟩
  obtain ⟨de, hde⟩ : ∃ n, (takeO (x :: V)).de = n := ⟨_, rfl⟩
  have HNM := Lib.hid hnm
  have HPN := Lib.hid hpn
  rw [hpn] at hcp1
  rw [hnm, hpn, hdl, hdc, hde]
  obtain ⟨w3, hw3⟩ : ∃ W, (w2.alloc (.cells #[.string (sb nm), .slice Ap pn cp] 70)).alloc (.cells #[.int .i64 dl, .int .i64 dc, .int .i64 de] 39) = W := ⟨_, rfl⟩
  have B3 : Hid (Below w2.heap.size w2 w3) := by rw [← hw3]; exact ((Below.refl _ _).alloc (Nat.le_refl _) _).alloc (by simp) _
  have A3 : Hid (Bx w2.heap.size #[.string (sb nm), .slice Ap pn cp] 70 w3) := by rw [← hw3]; exact (Bx.last w2 _ _).grow _
  have X3 : Hid (Bx w.heap.size #[.int .i64 xn, .slice A fl cf] 64 w3) := (X1.out.via hb2).via B3.out
  have HB3 := Lib.hid (Below.then_ (Below.then_ HB1.out hb2) B3.out)
  have H3 := Lib.hid (H.out.below HB3.out)
  have P3 : Hid (RdT w3 100 4 (.slice Ap (takeO (x :: V)).pts.length cp) (takeO (x :: V)).pts.length (ptcells (takeO (x :: V)).pts)) := HPT.out.1.below B3.out
  have a0 := A3.out.cell 0 (u := .string (sb nm)) rfl
  have a1 := A3.out.cell 1 (u := .slice Ap pn cp) rfl
  have c0 := X3.out.cell 0 (u := .int .i64 xn) rfl
  have c1 := X3.out.cell 1 (u := .slice A fl cf) rfl
  have al := A3.out.lt
  have cl := X3.out.lt
  have kv : w3.cell? ⟨w0.heap.size, 8, none⟩ = some av := H3.out.r.bx.cell 8 rfl
  have kf : w3.frozen? ⟨w0.heap.size, 8, none⟩ = false := H3.out.r.bx.free 8
  have kl := H3.out.r.lt
  have hBs := H3.out.r.hi
  have hBlo := H3.out.r.lo
  have hown := H3.out.own
  obtain ⟨Av, cv, rfl, hcv1, hcv2⟩ := (Rd.of_own hown).form
  unfold maxLen at hcv2
  have hlt0 := hown.lt
  have HW3 := Lib.hid hw3
  clear hw3 hpts hb2 hnm hpn hdl hdc hde X1 HB1 HL1 HLN E1
  go_upto_region 4 with fail
  rw [HW3.out]
  clear HW3
  have nbw : (Value.slice Av s.all.length cv).ownBlock ≠ some w0.heap.size := fun h => by have := (hlt0 _ h).1; omega
  have kva := Lib.hid (fun o => (((Below.refl w3.heap.size w3).alloc (Nat.le_refl _) o).drew.cell (p := ⟨w0.heap.size, 8, none⟩) kl).trans kv)
  have kfa := Lib.hid (fun o => (((Below.refl w3.heap.size w3).alloc (Nat.le_refl _) o).drew.frozen (p := ⟨w0.heap.size, 8, none⟩) kl).trans kf)
  have ksz : Hid (∀ o, w0.heap.size < (w3.alloc o).drew.heap.size) := fun o => by show w0.heap.size < (w3.alloc o).heap.size; rw [World.size_alloc]; omega
  go_region_law (
      (refine step_append_lies _ (by rfl) _ _ _ (by rfl) B 77 ie (.agg #[.int .u8 0, .int .i64 0, .slice none 0 0, .string ⟨#[]⟩, .string ⟨#[]⟩, .int .u8 0, .int .i64 0, .int .i64 0, .int .i64 0, .int .i64 0, .string ⟨#[]⟩, .slice none 0 0, .slice none 0 0, .string ⟨#[]⟩, .string ⟨#[]⟩, .int .u8 0, .slice none 0 0, .slice none 0 0, .slice none 0 0]) 19 288 Tryz.underlying58 hie hy0 hy1 hy2 rfl (by omega) (.slice Av s.all.length cv) s.all.length (elcells L) (by rfl) (by first | exact (hown.alloc _).drew | exact (hown.drew).alloc _) ⟨w3.heap.size, 0, none⟩ 1 1 [.int .u8 97, .int .i64 xn, .slice A fl cf, .string ⟨#[]⟩, .string ⟨#[]⟩, .int .u8 0, .int .i64 0, .int .i64 0, .int .i64 0, .int .i64 0, .string (sb nm), .slice Ap pn cp, .slice (some ⟨g, o, none⟩) m c, .string ⟨#[]⟩, .string ⟨#[]⟩, .int .u8 0, .slice none 0 0, .slice none 0 0, .slice none 0 0] (by rfl) (by rfl) (World.news_of_block (cs := #[.int .u8 97, .int .i64 xn, .slice A fl cf, .string ⟨#[]⟩, .string ⟨#[]⟩, .int .u8 0, .int .i64 0, .int .i64 0, .int .i64 0, .int .i64 0, .string (sb nm), .slice Ap pn cp, .slice (some ⟨g, o, none⟩) m c, .string ⟨#[]⟩, .string ⟨#[]⟩, .int .u8 0, .slice none 0 0, .slice none 0 0, .slice none 0 0]) (t := 77) (fr := (0, 0)) (heap_alloc_new w3 _)) (by simp [Value.oneCell']) (by omega) (by unfold maxLen; omega) (by omega) (by simp; omega) (w3.heap.size + 1) (by simp) ?_; intro gg cap w4 hown4 hgrow4 hat hlt4; have kv4 : w4.cell? ⟨w0.heap.size, 8, none⟩ = some (.slice Av s.all.length cv) := (hgrow4.cell_far ⟨w0.heap.size, 8, none⟩ (ksz.out _) (Ne.symm nbw)).trans (kva.out _); have kf4 : w4.frozen? ⟨w0.heap.size, 8, none⟩ = false := (hgrow4.frozen_far ⟨w0.heap.size, 8, none⟩ (ksz.out _) (Ne.symm nbw)).trans (kfa.out _)))
  all_goals
    have e1 := HXN.out
    have e2 := HM.out
    have e3 := HNM.out
    have e4 := HPN.out
    have e5 := HFV2.out
    subst e1 e2 e3 e4 e5
    have hba := (HB3.out.alloc HB3.out.size (.cells #[.int .u8 97, .int .i64 x.1, .slice A fl cf, .string ⟨#[]⟩, .string ⟨#[]⟩, .int .u8 0, .int .i64 0, .int .i64 0, .int .i64 0, .int .i64 0, .string (sb (takeO (x :: V)).nm), .slice Ap (takeO (x :: V)).pts.length cp, .slice (some ⟨g, o, none⟩) V.length c, .string ⟨#[]⟩, .string ⟨#[]⟩, .int .u8 0, .slice none 0 0, .slice none 0 0, .slice none 0 0] 77)).drew
    have hel : ElIn w0 w3 (takeEl x V, ⟨.slice A fl cf, .slice Ap (takeO (x :: V)).pts.length cp, .slice (some ⟨g, o, none⟩) V.length c⟩) := ⟨HFS.out, HV.out, P3.out, H0.out, takeO_nm HOK.out, HPT.out.2, ⟨Nat.zero_le _, Nat.zero_le _⟩⟩
    have P := CpW.push (p := (takeEl x V, ⟨.slice A fl cf, .slice Ap (takeO (x :: V)).pts.length cp, .slice (some ⟨g, o, none⟩) V.length c⟩)) H.out hba hown4 hgrow4 rfl (hel.below (((Below.refl w3.heap.size w3).alloc (Nat.le_refl _) _).drew))
    have HP := Lib.hid P
    clear P hba hel hown4 hgrow4 kv4 kf4
    go_end0
    exact ⟨rfl, _, _, HP.out.1, HP.out.2⟩
end Go.Proofs.YtakgcdefbbgdaaaGreatDoor
