/-
  Contract: the database of a source of a header and airways that are in error, or its diagnostics.
-/
import Derived.Test.YtgmehlgfilpleaaGreatDoorNwW
import Derived.Test.YtgmehlgfilpleaaGreatDoorNwS
import Derived.Test.YtgmehlgfilpleaaGreatDoorMG14
import Derived.Test.YtgmehlgfilpleaaGreatDoorMG15
namespace Go.Proofs.YtgmehlgfilpleaaGreatDoor
open Go.RowKit Go.Lib Go.Sort
set_option linter.unusedVariables false
set_option linter.unusedSimpArgs false
theorem HdOk.fail {s : Cp} (h : HdOk s) (x : Ln) (e : Int) : HdOk (s.fail x e) := by unfold Cp.fail; split <;> exact h
theorem HdOk.thP {s : Cp} (all : List Fx) : ∀ (l : List Pt) (v : List Ln) {s : Cp}, HdOk s → HdOk (thP all l v s)
  | [], v, s, h => by rw [thP_nil]; exact h
  | q :: r, [], s, h => h
  | q :: r, v :: vs, s, h => by
    show HdOk (Go.Proofs.YtgmehlgfilpleaaGreatDoor.thP all r vs (if q.ref ∈ all.map fxRef then s else s.fail v 6))
    split
    · exact HdOk.thP (s := s) all r vs h
    · exact HdOk.thP (s := s) all r vs (h.fail _ _)
theorem HdOk.thGo (all : List Fx) : ∀ (l : List El) (nf na : Nat) (bf : List Fx) (ns : List (List UInt8)) {s : Cp}, HdOk s → HdOk (thGo all nf na bf ns s l)
  | [], _, _, _, _, s, h => h
  | p :: r, nf, na, bf, ns, s, h => by
    unfold Go.Proofs.YtgmehlgfilpleaaGreatDoor.thGo
    split
    · exact HdOk.thGo all r _ _ _ _ (h.fail _ _)
    · exact HdOk.thGo all r _ _ _ _ (HdOk.thP (s := s) all _ _ (h.fail _ _))
theorem HdOk.step {s : Cp} (h : HdOk s) (x : Ln) (r : List Ln) : HdOk (secStep s x r) := by
  unfold secStep; split <;> exact h
theorem HdOk.secGo : ∀ (l : List Ln) {s : Cp}, HdOk s → HdOk (secGo s l)
  | [], s, h => h
  | x :: r, s, h => by
    show HdOk (Go.Proofs.YtgmehlgfilpleaaGreatDoor.secGo (secStep s x r) r)
    exact HdOk.secGo r (h.step x r)
theorem secGo_bad : ∀ (l : List Ln) (s : Cp), (secGo s l).bad = s.bad
  | [], s => rfl
  | x :: r, s => by
    show (secGo (secStep s x r) r).bad = _
    rw [secGo_bad r]
    unfold secStep; split <;> rfl
theorem thGo_all (all : List Fx) : ∀ (l : List El) (nf na : Nat) (bf : List Fx) (ns : List (List UInt8)) (s : Cp), (thGo all nf na bf ns s l).all = s.all
  | [], _, _, _, _, s => rfl
  | p :: r, nf, na, bf, ns, s => by
    unfold thGo
    split
    · rw [thGo_all all r]; exact fail_all _ _ _
    · rw [thGo_all all r, thP_all]; exact fail_all _ _ _
theorem rd_take {w : World} {size n c : Nat} {A : Option Addr} {xs : List Value} (h : Rd w size (.slice A n c) n xs) {m : Nat} (hm : m ≤ n) : Rd w size (.slice A m c) m (xs.take (m * size)) := by
  obtain ⟨hl, A', c', hv, hc, hcm, hr⟩ := h
  simp only [Value.slice.injEq, true_and] at hv
  obtain ⟨rfl, rfl⟩ := hv
  refine ⟨by rw [List.length_take, hl]; exact Nat.min_eq_left (Nat.mul_le_mul_right _ hm), A, c, rfl, by omega, hcm, fun h0 => ?_⟩
  obtain ⟨g, o, hA, hg, hx⟩ := hr (by omega)
  refine ⟨g, o, hA, hg, fun j u hu => hx j u ?_⟩
  rw [List.getElem?_take] at hu
  split at hu
  · exact hu
  · cases hu
theorem dicells_take : ∀ (l : List DgI) (m : Nat), dicells (l.take m) = (dicells l).take (m * 3)
  | [], m => by simp [dicells]
  | d :: l, 0 => by simp [dicells]
  | d :: l, m + 1 => by
    have e : dicells (d :: l) = .int .i64 d.1 :: .int .i64 d.2.1 :: .int .i64 d.2.2 :: dicells l := rfl
    rw [List.take_succ_cons, e, show (m + 1) * 3 = m * 3 + 1 + 1 + 1 by omega, List.take_succ_cons, List.take_succ_cons, List.take_succ_cons, ← dicells_take l m]; rfl
theorem own_set9 {base : Nat} {w : World} {e : TypeId} {size n : Nat} {v : Value} {xs : List Value} (h : w.ownsRow base e size v n xs) {b : Nat} (hb : b < base) (y0 y1 y2 y3 y4 y5 y6 y7 y8 : Value) :
    ((((((((((w.setCell ⟨b, 0, none⟩ y0).setCell ⟨b, 1, none⟩ y1).setCell ⟨b, 2, none⟩ y2).setCell ⟨b, 3, none⟩ y3).setCell ⟨b, 4, none⟩ y4).setCell ⟨b, 5, none⟩ y5).setCell ⟨b, 6, none⟩ y6).setCell ⟨b, 7, none⟩ y7).setCell ⟨b, 8, none⟩ y8)).ownsRow base e size v n xs :=
  own_set (own_set (own_set (own_set (own_set (own_set (own_set (own_set (own_set h hb _) hb _) hb _) hb _) hb _) hb _) hb _) hb _) hb _
theorem recs_pos : ∀ (ls : List (List UInt8)) (n : Nat), ∀ r ∈ recsL n ls, 0 < r.2.length
  | [], n, r, h => by cases h
  | l :: ls, n, r, h => by
    unfold recsL at h
    split at h
    · rename_i hr
      rcases List.mem_cons.1 h with rfl | h
      · unfold isRec at hr
        rw [Bool.and_eq_true, Bool.not_eq_true', List.isEmpty_eq_false_iff] at hr
        exact List.length_pos_iff.2 hr.2
      · exact recs_pos ls _ r h
    · exact recs_pos ls _ r h
theorem readRecs_pos (s : List UInt8) : ∀ r ∈ readRecs s, 0 < r.2.length := by
  unfold readRecs
  split
  · intro r h; cases h
  · exact recs_pos _ _
def dbZ : Array Value := #[.string ⟨#[]⟩, .int .i64 0, .int .i64 0, .int .i64 0, .int .i64 0, .int .i64 0, .slice none 0 0, .slice none 0 0, .slice none 0 0]
def dbH (v : Value) : Array Value := #[.string ⟨#[87, 69, 83, 84]⟩, .int .i64 2612, .int .i64 9826, .int .i64 9854, .int .i64 16560000, .int .i64 (-43200000), v, .slice none 0 0, .slice none 0 0]
/-- what Compile answers -/
def CompPost (T : Cp) (w : World) (e : Ending) (w' : World) : Prop :=
  (T.bad ≠ [] ∧ ∃ v, e = .returned (.tuple #[.agg dbZ, v]) ∧ Rd w' 3 v (min T.bad.length 50) (dicells (T.bad.take 50)) ∧ Below w.heap.size w w') ∨
  (T.bad = [] ∧ e = .returned (.tuple #[.agg (dbH (.slice none 0 0)), .slice none 0 0]) ∧ Below w.heap.size w w')
set_option maxRecDepth 100000 in
set_option maxHeartbeats 16000000 in
theorem compile_any (s : ByteArray) (w : World) (E : Env w) (rest : List Ln) (hs : s.size ≤ maxLen) (hr : (readRecs (bl s)).map lnOf = (1, hdF) :: rest) (hd : readDgs (bl s) = []) (hN : rest.length ≤ 1000) (hok : SecOk cp0.head rest)
    (hel : ∀ p ∈ (secGo cp0.head rest).all, ElOk p) (hgd : (thGo (fixesOf (secGo cp0.head rest).all) 0 0 [] [] (secGo cp0.head rest) (secGo cp0.head rest).all).bad = [] → (secGo cp0.head rest).all = []) :
    Calls Tryz.prog 39 #[.string s] w (CompPost (thGo (fixesOf (secGo cp0.head rest).all) 0 0 [] [] (secGo cp0.head rest) (secGo cp0.head rest).all) w) := by
  obtain ⟨S, hS⟩ : ∃ S, secGo cp0.head rest = S := ⟨_, rfl⟩
  have hSb : S.bad = [] := by rw [← hS, secGo_bad]; rfl
  have hSh : HdOk S := by rw [← hS]; exact HdOk.secGo rest ⟨rfl, rfl, rfl, rfl, rfl, rfl⟩
  have hSl : S.all.length ≤ 1000 := by rw [← hS]; have := sec_len cp0.head rest; simp only [show cp0.head.all.length = 0 from rfl] at this; omega
  have HS2 := Lib.hid hS
  rw [hS] at hel hgd ⊢
  obtain ⟨T, hT⟩ : ∃ T, thGo (fixesOf S.all) 0 0 [] [] S S.all = T := ⟨_, rfl⟩
  have hTh : HdOk T := by rw [← hT]; exact HdOk.thGo _ _ _ _ _ _ hSh
  have hTa : T.all = S.all := by rw [← hT, thGo_all]
  rw [hT] at hgd ⊢
  have HT := Lib.hid hT
  have HSB := Lib.hid hSb
  have HSH := Lib.hid hSh
  have HTH := Lib.hid hTh
  have HTA := Lib.hid hTa
  have HEL := Lib.hid hel
  have HGD := Lib.hid hgd
  have HOK := Lib.hid hok
  have HRD := Lib.hid hr
  have HDD := Lib.hid hd
  obtain ⟨wq, hwq⟩ : ∃ W, w.alloc (.cells dbZ 30) = W := ⟨_, rfl⟩
  have BQ : Hid (Below w.heap.size w wq) := by rw [← hwq]; exact (Below.refl _ _).alloc (Nat.le_refl _) _
  have XQ : Hid (Bx w.heap.size dbZ 30 wq) := by rw [← hwq]; exact Bx.last w _ _
  have EQ := E.below BQ.out
  unfold dbZ at hwq
  have HWQ := Lib.hid hwq
  clear hS hT hSb hSh hTh hTa hel hgd hok hr hd hwq
  go_enter Tryz.func39, Tryz.ntmps39
  go_wp2_with fail
  rw [HWQ.out]
  clear HWQ
  refine (read_any s _ EQ hs).mono ?_
  rintro e w1 ⟨v, d, rfl, hv, hdg, hb1⟩
  have HSM := readRecs_small (bl s)
  have hln := lns_of hv HSM.1
  rw [HRD.out] at hln
  rw [HDD.out] at hdg
  obtain ⟨A, c, rfl, hc, hm⟩ := hln.form
  obtain ⟨Ad, cd, rfl, hcd, _⟩ := hdg.1.form
  unfold maxLen at hm
  have HLN := Lib.hid hln
  have B1 := Lib.hid (Below.then_ BQ.out hb1)
  have X1 := Lib.hid (XQ.out.via hb1)
  have E1 := E.below B1.out
  have HF1 : Hid ((∀ x ∈ rest, 0 < x.2.length) ∧ (∀ x ∈ rest, x.2.length ≤ 1000000000000)) := by
    have hm2 : ∀ x ∈ rest, ∃ r ∈ readRecs (bl s), lnOf r = x := fun x hx => by
      have : x ∈ (readRecs (bl s)).map lnOf := by rw [HRD.out]; exact List.mem_cons_of_mem _ hx
      rw [List.mem_map] at this; exact this
    refine ⟨fun x hx => ?_, fun x hx => ?_⟩
    · obtain ⟨r, hr, rfl⟩ := hm2 x hx
      have := readRecs_pos (bl s) r hr
      show 0 < (fldI r.2).length
      unfold fldI; rw [List.length_map]; omega
    · obtain ⟨r, hr, rfl⟩ := hm2 x hx
      have := (HSM.1 r hr).2
      show (fldI r.2).length ≤ _
      unfold fldI; rw [List.length_map]; omega
  have hnl : ((1, hdF) :: rest).length = rest.length + 1 := rfl
  obtain ⟨n, hn⟩ : ∃ n, ((1, hdF) :: rest).length = n := ⟨_, rfl⟩
  have hn0 : (0 : Int) < (n : Int) ∧ n ≤ 1001 := by rw [← hn]; omega
  obtain ⟨hn0, hn1⟩ := hn0
  have hne : ((n : Int) == 0) = false := by rw [beq_eq_false_iff_ne]; omega
  have HNN := Lib.hid hn
  rw [hn] at hc
  rw [hn]
  simp only [List.length_nil]
  clear hv hdg hln hb1 BQ XQ EQ HSM hnl hn
  go_wp2_with fail
  obtain ⟨w2, hw2⟩ : ∃ W, (w1.alloc (.cells #[.slice A n c, .slice none 0 0, .string ⟨#[]⟩, .int .i64 0, .int .i64 0, .int .i64 0, .int .i64 0, .int .i64 0, .slice none 0 0, .bool false, .bool false, .bool false] 180)).alloc (.cells #[.func (.func 113) #[.pointer (some ⟨w1.heap.size, 0, none⟩)] #[], .func (.func 114) #[.pointer (some ⟨w1.heap.size, 0, none⟩)] #[]] 1) = W := ⟨_, rfl⟩
  rw [hw2]
  have B2 : Hid (Below w1.heap.size w1 w2) := by rw [← hw2]; exact ((Below.refl _ _).alloc (Nat.le_refl _) _).alloc (by simp) _
  have hs2 : w2.heap.size = w1.heap.size + 1 + 1 := by rw [← hw2, World.size_alloc, World.size_alloc]
  have C2 : Hid (CpW w1 w2.heap.size (.slice A n c) cp0 (.slice none 0 0) (.slice none 0 0) [] w2) := by
    refine ⟨⟨?_, World.ownsRow_nil _ _ _ _, RdT.nil _ _ _, rfl, B2.out, by simp, by omega, Nat.le_refl _⟩, World.ownsRow_nil _ _ _ _⟩
    rw [← hw2]; exact (Bx.last w1 _ _).grow _
  have Y2 : Hid (Bx (w1.heap.size + 1) #[.func (.func 113) #[.pointer (some ⟨w1.heap.size, 0, none⟩)] #[], .func (.func 114) #[.pointer (some ⟨w1.heap.size, 0, none⟩)] #[]] 1 w2) := by rw [← hw2]; exact Bx.last2 w1 _ _ _
  have HLN2 : Hid (LnsR w1 (.slice A n c) ((1, hdF) :: rest)) := by have := HLN.out; rw [HNN.out] at this; exact this
  have HS3 := Lib.hid hs2
  have hq1 : w1.heap.size ≠ w1.heap.size + 1 := by omega
  clear hw2 hs2 hne hn0
  go_loopw [37] (fun iv wr => (iv = .int .i64 0 ∧ Hid (wr = w2)) ∨ (iv = .int .i64 1 ∧ Hid (∃ av L, CpW w1 w2.heap.size (.slice A n c) S (.slice none 0 0) av L wr ∧ Frm (SB w1 w2.heap.size) w2 wr)) ∨ (iv = .int .i64 2 ∧ Hid (T.bad = [] ∧ ∃ B' bv av L, CpR w1 B' (.slice A n c) T bv av L wr ∧ Frm (SB w1 w2.heap.size) w2 wr))) (fun iv _ => 2 - (RowKit.intOf iv).toNat)
  case atStart => exact .inl ⟨rfl, rfl⟩
  case round =>
    rcases hrel with ⟨rfl, hw⟩ | ⟨rfl, hcp⟩ | ⟨rfl, hcp⟩
    · obtain rfl : wr = w2 := hw.out
      have y0 := Bx.cell Y2.out 0 rfl
      simp only [List.getElem_toArray, List.getElem_cons_zero] at y0
      have y0l := Bx.lt Y2.out
      have hsec := second_any w1 wr.heap.size _ rest wr E1 HLN2.out HF1.out.1 HF1.out.2 hN C2.out HOK.out
      rw [HS2.out] at hsec
      have HSEC := Lib.hid hsec
      clear hsec hw
      go_wp2_with fail
      refine HSEC.out.mono ?_
      rintro e w3 ⟨rfl, av, L, hc3, hf3⟩
      have k1 := hc3.r.bx.cell 1 (u := .slice none 0 0) rfl
      have hl3 := hc3.r.lt
      have HP : Hid (∃ av L, CpW w1 wr.heap.size (.slice A n c) S (.slice none 0 0) av L w3 ∧ Frm (SB w1 wr.heap.size) wr w3) := ⟨av, L, hc3, hf3⟩
      clear hc3 hf3 HSEC y0 y0l
      go_wp2
      go_roundw
      case rel => exact .inr (.inl ⟨by first | rfl | go_num, HP⟩)
      case measure => simp [RowKit.intOf]
    · obtain ⟨av, L, hcp1, hfr1⟩ := hcp.out
      have YR : Hid (Bx (w1.heap.size + 1) #[.func (.func 113) #[.pointer (some ⟨w1.heap.size, 0, none⟩)] #[], .func (.func 114) #[.pointer (some ⟨w1.heap.size, 0, none⟩)] #[]] 1 wr) :=
        (hfr1.block _ (by rw [HS3.out]; omega) (by rintro (h | h); omega; rw [HS3.out] at h; omega)).trans Y2.out
      have y1 := Bx.cell YR.out 1 rfl
      simp only [List.getElem_toArray, List.getElem_cons_succ, List.getElem_cons_zero] at y1
      have y1l := Bx.lt YR.out
      have hth := third_any w1 _ rest S av L wr E1 HLN2.out (hcp1.r.rebase hcp1.r.lt (Nat.le_refl _)) HSH.out HSB.out HEL.out hSl
      rw [HT.out] at hth
      have HTH3 := Lib.hid hth
      have HFR1 := Lib.hid hfr1
      clear hth hcp1 hfr1 hcp
      go_wp2_with fail
      refine HTH3.out.mono ?_
      rintro e w3 ⟨rfl, bv, hc3, hf3⟩
      have HC3 := Lib.hid hc3
      have HF3 : Hid (Frm (SB w1 w2.heap.size) w2 w3) := HFR1.out.trans (hf3.mono fun k hk => hk.elim .inl fun h => .inr (Nat.le_trans HFR1.out.size h))
      obtain ⟨Ab, cb, hbv, hcb, hcbm⟩ := (Rd.of_own hc3.bad).form
      unfold maxLen at hcbm
      obtain ⟨nb, hnb⟩ : ∃ q, T.bad.length = q := ⟨_, rfl⟩
      rw [hnb] at hbv hcb
      have k1 := hc3.bx.cell 1 (u := bv) rfl
      rw [hbv] at k1
      have hl3 := hc3.lt
      have HNB := Lib.hid hnb
      have HBV := Lib.hid hbv
      clear hc3 hf3 HTH3 y1 y1l hnb hbv YR
      rcases Nat.eq_zero_or_pos nb with h0 | h0
      · subst h0
        have HP : Hid (T.bad = [] ∧ ∃ B' bv av L, CpR w1 B' (.slice A n c) T bv av L w3 ∧ Frm (SB w1 w2.heap.size) w2 w3) := ⟨List.eq_nil_of_length_eq_zero HNB.out, _, _, _, _, HC3.out, HF3.out⟩
        go_wp2
        go_roundw
        case rel => exact .inr (.inr ⟨by first | rfl | go_num, HP⟩)
        case measure => simp [RowKit.intOf]
      · have h0i : (0 : Int) < (nb : Int) := by omega
        have hwl : w.heap.size < w1.heap.size := Bx.lt X1.out
        have X3 : Hid (Bx w.heap.size dbZ 30 w3) := (HF3.out.block _ (by rw [HS3.out]; omega) (by rintro (h | h); omega; rw [HS3.out] at h; omega)).trans (X1.out.via B2.out)
        have B3 : Hid (Below w.heap.size w w3) := (B1.out.trans (B2.out.mono (by omega))).trans (HF3.out.below (by rw [HS3.out]; omega) (fun k hk => by rcases hk with rfl | hk; omega; rw [HS3.out] at hk; omega))
        have hwr : w2.heap.size ≤ wr.heap.size := HFR1.out.size
        obtain ⟨mm, hmm, hmm1, hmm2⟩ : ∃ mm : Nat, min (nb : Int) 50 = (mm : Int) ∧ mm = min nb 50 ∧ mm ≤ nb := ⟨min nb 50, by omega, rfl, by omega⟩
        have hmc : mm ≤ cb := by omega
        have HMM := Lib.hid hmm1
        obtain ⟨w5, hw5⟩ : ∃ W, ((((((((((w3.setCell ⟨w.heap.size, 0, none⟩ (.string ⟨#[]⟩)).setCell ⟨w.heap.size, 1, none⟩ (.int .i64 0)).setCell ⟨w.heap.size, 2, none⟩ (.int .i64 0)).setCell ⟨w.heap.size, 3, none⟩ (.int .i64 0)).setCell ⟨w.heap.size, 4, none⟩ (.int .i64 0)).setCell ⟨w.heap.size, 5, none⟩ (.int .i64 0)).setCell ⟨w.heap.size, 6, none⟩ (.slice none 0 0)).setCell ⟨w.heap.size, 7, none⟩ (.slice none 0 0)).setCell ⟨w.heap.size, 8, none⟩ (.slice none 0 0)).drew) = W := ⟨_, rfl⟩
        have X5 : Hid (Bx w.heap.size dbZ 30 w5) := by rw [← hw5]; exact (Bx.set9 X3.out (.string ⟨#[]⟩) (.int .i64 0) (.int .i64 0) (.int .i64 0) (.int .i64 0) (.int .i64 0) (.slice none 0 0) (.slice none 0 0) (.slice none 0 0)).drew
        have B5 : Hid (Below w.heap.size w w5) := by rw [← hw5]; exact (bel_set9 B3.out (Nat.le_refl _) (.string ⟨#[]⟩) (.int .i64 0) (.int .i64 0) (.int .i64 0) (.int .i64 0) (.int .i64 0) (.slice none 0 0) (.slice none 0 0) (.slice none 0 0)).drew
        have HRB : Hid (Rd w5 3 (.slice Ab mm cb) mm (dicells (T.bad.take 50))) := by
          have h1 := Rd.of_own ((own_set9 HC3.out.bad (show w.heap.size < wr.heap.size by rw [HS3.out] at hwr; omega) (.string ⟨#[]⟩) (.int .i64 0) (.int .i64 0) (.int .i64 0) (.int .i64 0) (.int .i64 0) (.slice none 0 0) (.slice none 0 0) (.slice none 0 0)).drew)
          rw [hw5] at h1
          rw [HBV.out, HNB.out] at h1
          have h2 := rd_take h1 hmm2
          have h3 : (dicells T.bad).take (mm * 3) = dicells (T.bad.take 50) := by
            rw [← dicells_take]
            congr 1
            rw [HMM.out, ← HNB.out]
            rcases Nat.le_total T.bad.length 50 with h | h
            · rw [Nat.min_eq_left h, List.take_of_length_le (Nat.le_refl _), List.take_of_length_le h]
            · rw [Nat.min_eq_right h]
          rw [h3] at h2
          exact h2
        have hne2 : T.bad ≠ [] := fun h => by have := HNB.out; rw [h] at this; simp at this; omega
        have HNE := Lib.hid hne2
        have HW5 := Lib.hid hw5
        have hmt : ((mm : Int)).toNat = mm := by omega
        have hmci : (mm : Int) ≤ (cb : Int) := by omega
        have hmi0 : (0 : Int) ≤ (mm : Int) := by omega
        obtain ⟨⟨x0, x1, x2, x3, x4, x5, x6, x7, x8⟩, f0, f1, f2, f3, f4, f5, f6, f7, f8⟩ := Bx.cells9 X3.out
        have xl := Bx.lt X3.out
        have hqn : w.heap.size ≠ w1.heap.size := by omega
        have hqn2 : w1.heap.size ≠ w.heap.size := by omega
        clear hmm1 hne2 hw5
        go_upto_region 12 with fail
        go_region
        rw [HW5.out]
        obtain ⟨⟨z0, z1, z2, z3, z4, z5, z6, z7, z8⟩, _⟩ := Bx.cells9 X5.out
        clear x0 x1 x2 x3 x4 x5 x6 x7 x8 f0 f1 f2 f3 f4 f5 f6 f7 f8 HW5 k1 hmm hmt
        go_wp2
        refine bodyPost_ret (v := .tuple #[.agg dbZ, .slice Ab mm cb]) (by unfold dbZ; simp [results, Tryz.results39, go_sem, z0, z1, z2, z3, z4, z5, z6, z7, z8]) rfl ?_
        exact .inl ⟨HNE.out, _, rfl, by rw [show min T.bad.length 50 = mm by rw [HNB.out]; exact HMM.out.symm]; exact HRB.out, B5.out⟩
    · obtain ⟨hTb, B', bv, av, L, hcp1, hfr1⟩ := hcp.out
      have HTB := Lib.hid hTb
      have HCP := Lib.hid hcp1
      have hwl : w.heap.size < w1.heap.size := Bx.lt X1.out
      have HFR := Lib.hid hfr1
      have X3 : Hid (Bx w.heap.size dbZ 30 wr) := (hfr1.block _ (by rw [HS3.out]; omega) (by rintro (h | h); omega; rw [HS3.out] at h; omega)).trans (X1.out.via B2.out)
      have B3 : Hid (Below w.heap.size w wr) := (B1.out.trans (B2.out.mono (by omega))).trans (hfr1.below (by rw [HS3.out]; omega) (fun k hk => by rcases hk with rfl | hk; omega; rw [HS3.out] at hk; omega))
      have hall : T.all = [] := HTA.out.trans (HGD.out hTb)
      have k2 := hcp1.bx.cell 2 (u := .string (sb T.nm)) rfl
      have k3 := hcp1.bx.cell 3 (u := .int .i64 T.cy) rfl
      have k4 := hcp1.bx.cell 4 (u := .int .i64 T.fr) rfl
      have k5 := hcp1.bx.cell 5 (u := .int .i64 T.tu) rfl
      have k6 := hcp1.bx.cell 6 (u := .int .i64 T.la) rfl
      have k7 := hcp1.bx.cell 7 (u := .int .i64 T.lo) rfl
      rw [HTH.out.1] at k2
      rw [HTH.out.2.1] at k3
      rw [HTH.out.2.2.1] at k4
      rw [HTH.out.2.2.2.1] at k5
      rw [HTH.out.2.2.2.2.1] at k6
      rw [HTH.out.2.2.2.2.2] at k7
      replace k2 : wr.cell? ⟨w1.heap.size, 2, none⟩ = some (.string ⟨#[87, 69, 83, 84]⟩) := k2
      obtain ⟨-, Aa, ca, hav, hca, hcam, -⟩ := hcp1.all.1
      unfold maxLen at hcam
      obtain ⟨m, hm2⟩ : ∃ q, T.all.length = q := ⟨_, rfl⟩
      rw [hm2] at hav hca
      obtain rfl : m = 0 := by rw [← hm2, hall]; rfl
      have k8 := hcp1.bx.cell 8 (u := av) rfl
      rw [hav] at k8
      have hwl1 := hcp1.lt
      obtain ⟨q9, hq9⟩ : ∃ q, wr.heap.size = q := ⟨_, rfl⟩
      obtain ⟨w9, hw9⟩ : ∃ W, wr.alloc (.cells (dbH (.slice none 0 0)) 30) = W := ⟨_, rfl⟩
      have B9 : Hid (Below wr.heap.size wr w9) := by rw [← hw9]; exact (Below.refl _ _).alloc (Nat.le_refl _) _
      have X9 : Hid (Bx q9 (dbH (.slice none 0 0)) 30 w9) := by rw [← hw9, ← hq9]; exact Bx.last wr _ _
      have X39 := Lib.hid (X3.out.via B9.out)
      have HB9 : Hid (Below w.heap.size w w9) := Below.then_ B3.out B9.out
      have hq9l : w1.heap.size < w9.heap.size := Nat.lt_of_lt_of_le hwl1 B9.out.size
      have hq9n : w.heap.size < q9 := by rw [← hq9]; omega
      unfold dbH at hw9
      have HW9 := Lib.hid hw9
      have k8' : w9.cell? ⟨w1.heap.size, 8, none⟩ = some (.slice Aa 0 ca) := (B9.out.cell (p := ⟨w1.heap.size, 8, none⟩) hwl1).trans k8
      have HQ9 := Lib.hid hq9
      clear hcp1 hfr1 hcp hTb hav hm2 hw9 hq9 hall
      go_upto_region 15 with fail
      rw [HW9.out, HQ9.out]
      clear k2 k3 k4 k5 k6 k7 k8 HW9
      go_wp2_with fail
      go_loopw [72] (fun iv wr2 => iv = .int .i64 0 ∧ Hid (wr2 = w9)) (fun iv _ => 0)
      case atStart => exact ⟨rfl, rfl⟩
      case round =>
        obtain ⟨rfl, hw⟩ := hrel
        obtain rfl : wr = w9 := hw.out
        have k6 := X9.out.cell 6 (u := .slice none 0 0) rfl
        have kq := Bx.lt X9.out
        clear hw
        go_wp2_with fail
        refine (sortZ_fix _).mono ?_
        rintro e w10 ⟨rfl, rfl⟩
        have n6 := X9.out.cell 6 (u := .slice none 0 0) rfl
        have nf6 := X9.out.free 6
        obtain ⟨w11, hw11⟩ : ∃ W, w10.setCell ⟨q9, 6, none⟩ (.slice none 0 0) = W := ⟨_, rfl⟩
        have XS : Hid (Bx q9 (dbH (.slice none 0 0)) 30 w11) := by rw [← hw11]; exact X9.out.set 6 _
        have X3S : Hid (Bx w.heap.size dbZ 30 w11) := by rw [← hw11]; exact (heap_setCell_other _ ⟨q9, 6, none⟩ _ _ (by show w.heap.size ≠ q9; omega)).trans X39.out
        have HB11 : Hid (Below w.heap.size w w11) := by rw [← hw11]; exact HB9.out.setCell (by show w.heap.size ≤ q9; omega) _
        have HW11 := Lib.hid hw11
        clear hw11 k6
        go_upto_region 26 with fail
        rw [HW11.out]
        clear HW11 n6 nf6 kq
        obtain ⟨⟨y0, y1, y2, y3, y4, y5, y6, y7, y8⟩, _⟩ := Bx.cells9 XS.out
        have yl := Bx.lt XS.out
        go_wp2_with fail
        refine (stableZ_air none 0 _ _).mono ?_
        rintro e w12 ⟨rfl, rfl⟩
        go_wp2_with fail
        refine (stableZ_proc none 0 _ _).mono ?_
        rintro e w13 ⟨rfl, rfl⟩
        obtain ⟨⟨x0, x1, x2, x3, x4, x5, x6, x7, x8⟩, f0, f1, f2, f3, f4, f5, f6, f7, f8⟩ := Bx.cells9 X3S.out
        have xl := Bx.lt X3S.out
        obtain ⟨w14, hw14⟩ : ∃ W, (((((((((w13.setCell ⟨w.heap.size, 0, none⟩ (.string ⟨#[87, 69, 83, 84]⟩)).setCell ⟨w.heap.size, 1, none⟩ (.int .i64 2612)).setCell ⟨w.heap.size, 2, none⟩ (.int .i64 9826)).setCell ⟨w.heap.size, 3, none⟩ (.int .i64 9854)).setCell ⟨w.heap.size, 4, none⟩ (.int .i64 16560000)).setCell ⟨w.heap.size, 5, none⟩ (.int .i64 (-43200000))).setCell ⟨w.heap.size, 6, none⟩ (.slice none 0 0)).setCell ⟨w.heap.size, 7, none⟩ (.slice none 0 0)).setCell ⟨w.heap.size, 8, none⟩ (.slice none 0 0)) = W := ⟨_, rfl⟩
        have X14 : Hid (Bx w.heap.size (dbH (.slice none 0 0)) 30 w14) := by rw [← hw14]; exact Bx.set9 X3S.out _ _ _ _ _ _ _ _ _
        have HB14 : Hid (Below w.heap.size w w14) := by rw [← hw14]; exact bel_set9 HB11.out (Nat.le_refl _) _ _ _ _ _ _ _ _ _
        have HW14 := Lib.hid hw14
        clear hw14
        go_wp2
        rw [HW14.out]
        obtain ⟨⟨z0, z1, z2, z3, z4, z5, z6, z7, z8⟩, _⟩ := Bx.cells9 X14.out
        refine bodyPost_ret (v := .tuple #[.agg (dbH (.slice none 0 0)), .slice none 0 0]) (by unfold dbH; simp [results, Tryz.results39, go_sem, z0, z1, z2, z3, z4, z5, z6, z7, z8]) rfl ?_
        exact .inr ⟨HTB.out, rfl, HB14.out⟩
end Go.Proofs.YtgmehlgfilpleaaGreatDoor
