/-
  The walk of the law AirwayTakes.
-/
import Derived.Test.YtinkdlmikhcpjaaGreatDoorMTak
import Derived.Test.YtinkdlmikhcpjaaGreatDoorMHop
namespace Go.Proofs.YtinkdlmikhcpjaaGreatDoor
open Go.RowKit
set_option linter.unusedVariables false
set_option linter.unusedSimpArgs false

/-- an airway and a diagnostic in boxes -/
structure TwoB (w0 : World) (ba bd : Nat) (nm : List UInt8) (pv : Value) (pts : List Pt) (a b c : Int) (w : World) : Prop where
  bx : AwB w ba nm pv
  dg : DgT w bd a b c
  pt : PtsR w pv pts
  be : Below w0.heap.size w0 w
theorem TwoB.then_ {w0 w w' : World} {ba bd : Nat} {nm : List UInt8} {pv : Value} {pts : List Pt} {a b c : Int} (h : TwoB w0 ba bd nm pv pts a b c w) (hb : Below w.heap.size w w') : TwoB w0 ba bd nm pv pts a b c w' :=
  ⟨(hb.block _ (heap_lt2 h.bx)).trans h.bx, (hb.block _ (heap_lt2 h.dg)).trans h.dg, h.pt.below hb, Below.then_ h.be hb⟩
theorem twoB_new {w0 w : World} {nm : List UInt8} {pv : Value} {pts : List Pt} (a b c : Int) (hp : PtsR w pv pts) (hb : Below w0.heap.size w0 w) :
    TwoB w0 w.heap.size (w.heap.size + 1) nm pv pts a b c ((w.alloc (.cells #[.string (sb nm), pv] 36)).alloc (.cells #[.int .i64 a, .int .i64 b, .int .i64 c] 39)) := by
  have h2 := heap_alloc_new (w.alloc (.cells #[.string (sb nm), pv] 36)) (.cells #[.int .i64 a, .int .i64 b, .int .i64 c] 39)
  rw [World.size_alloc] at h2
  have hk : Below w.heap.size w ((w.alloc (.cells #[.string (sb nm), pv] 36)).alloc (.cells #[.int .i64 a, .int .i64 b, .int .i64 c] 39)) := ((Below.refl _ _).alloc (Nat.le_refl _) _).alloc (by simp) _
  exact ⟨(((Below.refl _ _).alloc (Nat.le_refl _) _).block w.heap.size (by simp)).trans (heap_alloc_new w _), h2, hp.below hk, Below.then_ hb hk⟩
theorem ptsGo_nm (nm : List UInt8) (l0 c0 : Int) : ∀ (r : List Ln) (done : List Pt), (ptsGo nm l0 c0 done r).nm = nm ∨ (ptsGo nm l0 c0 done r).nm = []
  | [], done => by
    unfold ptsGo
    split
    · exact .inl rfl
    · exact .inr rfl
  | x :: r, done => by
    unfold ptsGo
    split
    · exact .inr rfl
    · exact ptsGo_nm nm l0 c0 r _
theorem hdNm_len {x : Ln} (h : LnOk x) : (hdNm x).length ≤ maxLen := by
  have h1 : (hd1 x).text.length ≤ 140737488351232 := LnOk.text (by rw [hd1_fs]; exact h.2)
  unfold hdNm Sc.tv nameSV
  split
  · split
    · unfold maxLen; omega
    · simp
  · simp
theorem takeO_nm {L : List Ln} (h : ∀ x ∈ L, LnOk x) : (takeO L).nm.length ≤ maxLen := by
  cases L with
  | nil => show ([] : List UInt8).length ≤ _; simp
  | cons x r =>
    have e : takeO (x :: r) = if (hd2 x).endB then tkBad (hd2 x) else ptsGo (hdNm x) x.1 (fld x.2 0).2 [] r := rfl
    rw [e]
    split
    · show ([] : List UInt8).length ≤ _; simp
    · rcases ptsGo_nm (hdNm x) x.1 (fld x.2 0).2 r [] with h1 | h1
      · rw [h1]; exact hdNm_len (h x (by simp))
      · rw [h1]; simp
set_option maxRecDepth 100000 in
set_option maxHeartbeats 4000000 in
theorem airwayTakes_walk (v : Value) (L : List Ln) (w : World) (E : Env w) (h : LnsR w v L) (hN : L.length ≤ 4398046511104) :
    Calls Tryz.prog 4 #[v] w fun e w' => e = .returned (.bool true) ∧ Below w.heap.size w w' := by
  have H := Lib.hid h
  have HNM0 : Hid ((takeO L).nm.length ≤ maxLen) := by
    obtain ⟨_, _, _, _, _, hok, _⟩ := h
    exact takeO_nm hok
  obtain ⟨A0, c0, rfl, _, _⟩ := h.form
  clear h
  have HNN := Lib.hid hN
  obtain ⟨n, hn⟩ : ∃ n, L.length = n := ⟨_, rfl⟩
  rw [hn] at H ⊢
  clear hn hN
  go_enter Tryz.func4, Tryz.ntmps4
  go_wp2_with fail
  refine (awake_any _ E).mono ?_
  rintro e w1 ⟨rfl, hb1⟩
  have HB1 := Lib.hid hb1
  have H1 := Lib.hid (H.out.below hb1)
  have E1 := E.below hb1
  clear hb1
  go_wp2_with fail
  refine (take15_any _ L _ E1 H1.out HNN.out).mono ?_
  rintro e w2 ⟨pa, rfl, hpa, hb2⟩
  obtain ⟨O, hO⟩ : ∃ O, takeO L = O := ⟨_, rfl⟩
  have HCH : Hid (O.bad = false → chkA O.nm O.pts = 0) := by rw [← hO]; exact takeO_chk L
  rw [hO] at hpa ⊢
  have HO := Lib.hid hO
  have HB2 := Lib.hid (Below.then_ HB1.out hb2)
  have HNM : Hid (O.nm.length ≤ maxLen) := by rw [← hO]; exact HNM0.out
  obtain ⟨nm, pts, dl, dc, de, bd⟩ := O
  simp only at hpa HCH HNM ⊢
  obtain ⟨Ap, cp, hpv, _, _⟩ := hpa.form
  have H2 := Lib.hid (H1.out.below hb2)
  subst hpv
  have B2 := Lib.hid (twoB_new (nm := nm) dl dc de hpa HB2.out)
  obtain ⟨m, hm⟩ : ∃ m, pts.length = m := ⟨_, rfl⟩
  rw [hm] at B2 ⊢
  clear hO hpa hb2 hm
  have K2 : Hid (Below w2.heap.size w2 ((w2.alloc (.cells #[.string (sb nm), .slice Ap m cp] 36)).alloc (.cells #[.int .i64 dl, .int .i64 dc, .int .i64 de] 39))) := ((Below.refl _ _).alloc (Nat.le_refl _) _).alloc (by simp) _
  have H3 := Lib.hid (H2.out.below K2.out)
  have E3 := E.below B2.out.be
  go_wp2_with fail
  refine (rtake15_any _ L _ E3 H3.out HNN.out).mono ?_
  rintro e w3 ⟨pb, rfl, hpb, hb3⟩
  rw [HO.out] at hpb ⊢
  simp only at hpb ⊢
  obtain ⟨Bp, cq, hpv, _, _⟩ := hpb.form
  subst hpv
  have B3 := Lib.hid (B2.out.then_ hb3)
  have C3 := Lib.hid (twoB_new (nm := nm) dl dc de hpb B3.out.be)
  have B4 := Lib.hid (B3.out.then_ (((Below.refl _ _).alloc (Nat.le_refl _) (.cells #[.string (sb nm), .slice Bp pts.length cq] 36)).alloc (by simp) (.cells #[.int .i64 dl, .int .i64 dc, .int .i64 de] 39)))
  obtain ⟨x0, x1, x2⟩ := B3.out.bx.cells
  clear hpb hb3 B2 K2 H2 H3 H1 H
  go_wp2_with fail
  refine (points_same _ _ pts _ B4.out.pt C3.out.pt).mono ?_
  rintro e w5 ⟨rfl, hd⟩
  have B5 := Lib.hid (B4.out.then_ hd.below)
  have C5 := Lib.hid (C3.out.then_ hd.below)
  clear hd B3 B4 C3 x0 x1 x2
  obtain ⟨x0, x1, x2⟩ := B5.out.bx.cells
  obtain ⟨y0, y1, y2, y3⟩ := B5.out.dg.cells
  obtain ⟨z0, z1, z2, z3⟩ := C5.out.dg.cells
  cases bd
  · have HC := Lib.hid (HCH.out rfl)
    go_wp2_with fail
    refine (check_any (sb nm) _ pts _ B5.out.pt HNM.out).mono ?_
    rintro e w6 ⟨rfl, hb⟩
    rw [bl_sb, HC.out]
    have HB6 := Lib.hid (Below.then_ B5.out.be hb)
    clear hb
    go_wp2
    go_ret
    exact ⟨rfl, HB6.out⟩
  · have HB6 := Lib.hid B5.out.be
    go_wp2
    go_ret
    exact ⟨rfl, HB6.out⟩
end Go.Proofs.YtinkdlmikhcpjaaGreatDoor
