/-
  The walk of the law FixSorts.
-/
import Derived.Test.YtinkdlmikhcpjaaGreatDoorMFixS
namespace Go.Proofs.YtinkdlmikhcpjaaGreatDoor
open Go.RowKit Go.Lib Go.Sort
set_option linter.unusedVariables false
set_option linter.unusedSimpArgs false
/-- cells of a block that may be written -/
def CellsOk (g m : Nat) (w : World) : Prop := ∀ t, t < m → (∃ u, w.cell? ⟨g, t, none⟩ = some u) ∧ w.frozen? ⟨g, t, none⟩ = false
theorem CellsOk.of {w : World} {g : Nat} {D : List FxS} (h : HoldsK encF 7 w g 0 D.toArray) : CellsOk g (D.length * 7) w := by
  intro t ht
  have := h t (by rw [size_flatK, List.size_toArray]; exact ht)
  rw [Nat.zero_add] at this
  exact ⟨⟨_, this.1⟩, this.2⟩
theorem CellsOk.setCell {w : World} {g m : Nat} (h : CellsOk g m w) (a : Addr) (v : Value) : CellsOk g m (w.setCell a v) := fun t ht => by
  obtain ⟨⟨u, hu⟩, h2⟩ := h t ht
  exact ⟨cell?_setCell_some hu, by rw [World.frozen?_setCell]; exact h2⟩
theorem CellsOk.below {w w' : World} {g m : Nat} (h : CellsOk g m w) (hg : g < w.heap.size) (hb : Below w.heap.size w w') : CellsOk g m w' := fun t ht => by
  obtain ⟨⟨u, hu⟩, h2⟩ := h t ht
  exact ⟨⟨u, (hb.cell (p := ⟨g, t, none⟩) hg).trans hu⟩, (hb.frozen (p := ⟨g, t, none⟩) hg).trans h2⟩
set_option maxRecDepth 100000 in
set_option maxHeartbeats 4000000 in
theorem fixSorts_walk (v : Value) (l0 : List Fx) (w : World) (E : Env w) (h : FxsR w v l0) (hz : SzL l0) :
    Calls Tryz.prog 3 #[v] w fun e w' => e = .returned (.bool true) ∧ Below w.heap.size w w' := by
  have H := Lib.hid h
  clear h
  go_enter Tryz.func3, Tryz.ntmps3
  go_wp2_with fail
  refine (awakeF_any _ E).mono ?_
  rintro e w1 ⟨rfl, hb1⟩
  have HB1 := Lib.hid hb1
  have H1 := Lib.hid (H.out.below hb1)
  clear hb1
  go_wp2_with fail
  refine (few_any v l0 30 _ H1.out (by decide)).mono ?_
  rintro e w2 ⟨v2, rfl, hown, hb2⟩
  have HB2 := Lib.hid (Below.then_ HB1.out hb2)
  obtain ⟨l, hl⟩ : ∃ l, l0.take 30 = l := ⟨_, rfl⟩
  have HL : Hid (l.length ≤ 30) := by unfold Hid; rw [← hl, List.length_take]; omega
  have HZ : SzL l := by rw [← hl]; exact hz.take 30
  rw [hl] at hown
  have H2 : Hid (FxsR w2 v2 l) := Rd.of_own hown
  have HT : Hid (l.take 30 = l) := List.take_of_length_le HL.out
  clear hown hb2 hl hz H H1
  go_wp2_with fail
  refine (few_any v2 l 30 _ H2.out (by decide)).mono ?_
  rintro e w3 ⟨v3, rfl, hown, hb3⟩
  rw [HT.out] at hown
  have HB3 := Lib.hid (Below.then_ HB2.out hb3)
  have H3 := Lib.hid (H2.out.below hb3)
  have G3 : Hid (FxsR w3 v3 l) := Rd.of_own hown
  obtain ⟨L, hL⟩ := fxS_of HZ
  have HLL := Lib.hid hL
  have HLN : Hid (L.length ≤ 30) := by unfold Hid; have := HL.out; rw [← hL, List.length_map] at this; exact this
  clear hown hb3 H2 HZ HL HT hL
  go_wp2_with fail
  refine (sortF_any v2 L _ (by rw [HLL.out]; exact H3.out) (by have := HLN.out; omega)).mono ?_
  rintro e w4 ⟨vm, D, rfl, hst, hp⟩
  have B34 := Lib.hid hp.bl
  have HST := Lib.hid hst
  have HP := Lib.hid hp
  have H4 := Lib.hid (H3.out.below hp.bl)
  have G4 := Lib.hid (G3.out.below hp.bl)
  clear hst hp
  go_wp2_with fail
  refine (rsortF_any v2 L _ (by rw [HLL.out]; exact H4.out) (by have := HLN.out; omega)).mono ?_
  rintro e w5 ⟨vr, D', rfl, hst, hp⟩
  obtain rfl : D = D' := Stb.uniq swoF HST.out hst
  have B35 := Lib.hid (Below.then_ B34.out hp.bl)
  have B45 := Lib.hid hp.bl
  have M5 := Lib.hid (HP.out.rd.below hp.bl)
  have R5 := Lib.hid hp.rd
  have H5 := Lib.hid (H4.out.below hp.bl)
  have G5 := Lib.hid (G4.out.below hp.bl)
  clear hst hp H4 G4 B34
  go_wp2_with fail
  refine (sameF_same vm vr _ _ M5.out R5.out).mono ?_
  rintro e w6 ⟨rfl, hd⟩
  have B36 := Lib.hid (Below.then_ B35.out hd.below)
  have B46 := Lib.hid (Below.then_ B45.out hd.below)
  have H6 := Lib.hid (H5.out.below hd.below)
  have G6 := Lib.hid (G5.out.below hd.below)
  clear hd M5 R5 H5 G5 B35 B45
  go_wp2_with fail
  refine (sameF_same v2 v3 _ _ H6.out G6.out).mono ?_
  rintro e w7 ⟨rfl, hd⟩
  have B37 := Lib.hid (Below.then_ B36.out hd.below)
  have B47 := Lib.hid (Below.then_ B46.out hd.below)
  clear hd B36 B46 H6 G6
  rcases Nat.eq_zero_or_pos D.length with h0 | h0
  · have HD0 : Hid (D = []) := List.eq_nil_of_length_eq_zero h0
    obtain ⟨A, c, hv, _, _⟩ := HP.out.rd.form
    rw [List.length_map, h0] at hv
    subst hv
    clear h0 HP
    go_wp2_with fail
    go_loopg [27] 0 (fun g i wr => i = .int .i64 0 ∧ Hid (w7 = wr))
    case atStart => exact ⟨rfl, Lib.hid rfl⟩
    case round =>
      obtain ⟨rfl, hw⟩ := hrel
      have B3r := Lib.hid (hw.out ▸ B37.out)
      clear hw
      have Hr := Lib.hid (H3.out.below B3r.out)
      have Gr := Lib.hid (G3.out.below B3r.out)
      go_wp2_with fail
      refine (sameF_same v2 v3 _ _ Hr.out Gr.out).mono ?_
      rintro e w8 ⟨rfl, hd⟩
      have HE := Lib.hid (Below.then_ (Below.then_ HB3.out B3r.out) hd.below)
      clear hd
      go_wp2
      go_ret
      exact ⟨rfl, HE.out⟩
  · obtain ⟨g, c, rfl, hg, hg2, hH⟩ := HP.out.own h0
    have HC : Hid (CellsOk g (D.length * 7) w7) := (CellsOk.of hH).below hg2 B47.out
    have HG := Lib.hid hg
    have hcn : D.length ≤ 30 := by have h1 := HST.out.len; have h2 := HLN.out; omega
    obtain ⟨n, hn⟩ : ∃ n, D.length = n := ⟨_, rfl⟩
    rw [hn] at HC hcn ⊢
    clear hg hg2 hH hn h0 HP HST
    go_wp2_with fail
    go_loopg [27] n (fun g1 i wr => ∃ k : Nat, i = .int .i64 k ∧ k ≤ n ∧ n - k ≤ g1 ∧ Hid (Below w3.heap.size w3 wr) ∧ Hid (CellsOk g (n * 7) wr))
    case atStart => exact ⟨0, rfl, by omega, by omega, B37, HC⟩
    case round =>
      obtain ⟨k, rfl, hk, hg1, hb, hcs⟩ := hrel
      by_cases hlt : k < n
      · have hki : (k : Int) < (n : Int) := by omega
        obtain ⟨⟨u, hu⟩, hf⟩ := hcs.out (k * 7) (by omega)
        have hb2 : Hid (Below w3.heap.size w3 (wr.setCell ⟨g, k * 7, none⟩ (.string ⟨#[67, 72, 65, 78, 71, 69, 68]⟩))) := hb.out.setCell HG.out _
        have hc2 : Hid (CellsOk g (n * 7) (wr.setCell ⟨g, k * 7, none⟩ (.string ⟨#[67, 72, 65, 78, 71, 69, 68]⟩))) := hcs.out.setCell _ _
        clear hb hcs
        go_wp2
        go_roundg (n - (k + 1))
        case measure => omega
        case rel => exact ⟨k + 1, by go_num, by omega, by omega, hb2, hc2⟩
      · have Hr := Lib.hid (H3.out.below hb.out)
        have Gr := Lib.hid (G3.out.below hb.out)
        go_wp2_with fail
        refine (sameF_same v2 v3 _ _ Hr.out Gr.out).mono ?_
        rintro e w8 ⟨rfl, hd⟩
        have HE := Lib.hid (Below.then_ (Below.then_ HB3.out hb.out) hd.below)
        clear hd
        go_wp2
        go_ret
        exact ⟨rfl, HE.out⟩
end Go.Proofs.YtinkdlmikhcpjaaGreatDoor
